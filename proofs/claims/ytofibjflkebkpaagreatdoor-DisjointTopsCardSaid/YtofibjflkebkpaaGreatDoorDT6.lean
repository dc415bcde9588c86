import Derived.WalkKit
import Derived.WalkSpells
import Derived.WalkLawsBesides
import Derived.Deep.QuietTactic
import Derived.BigQuiet
import Derived.Lib.Hide
import Derived.Shelf.Abstract
import Derived.Deep.RegionWith
import Derived.Laws.AppendOwnNone
import Derived.Lib.AppendZerosOnto
import Derived.Lib.SliceRun
import Derived.Lib.SlicesCompact
import Derived.Shelf.SlSortCmp.NoneTotal
import Derived.Maps.OwnOps
import Derived.Maps.OwnSet
import Derived.Maps.Views
import Derived.Deep.MidRow
import Derived.Deep.RegionHeld3
import Derived.Deep.AppendLies
import Derived.Deep.RegionLaw
import Derived.IntWalk
import Derived.StillTailTactics
import Derived.RegionTactic
import Derived.BigRegion
import Derived.ChangeAlike
import Derived.Sort.LotD2
import Derived.Sort.LotA
import Derived.Shelf.SlSortCmp.PdqK
import Derived.Deep.DeepCutAuto
import Derived.Lib.ItoaNum
import Derived.Deep.LoopGhost
import Derived.ProofKit
import Derived.OpenShut
import Derived.SizedLaws
import Derived.Lib.SmallJoins
import Derived.Deep.Slices
import Derived.Deep.Fields
import Derived.Deep.Strs
import Derived.Carry
import Derived.Lib.BitFns
import Derived.Deep.CutBlock
import Derived.Test.YtofibjflkebkpaaGreatDoorDT5
set_option maxRecDepth 100000
set_option maxHeartbeats 16000000
namespace Go.Proofs.YtofibjflkebkpaaGreatDoor
open Go.RowKit
theorem pQ (va vb:Value) (xs ys:List Nat) (w:World) (ha:ah w va xs) (hb:ah w vb ys) (hla:xs.length<=274877906944) (hlb:ys.length<=274877906944) :
  Calls Tryz.prog 115 #[va,vb] w fun e w'=>(∃ v,e=.returned v/\ah w' v (nw (Nat.gcd (nv xs) (nv ys))))/\af w w':=by
 have HTA:=ae (fun W (hk:af w W)=>bh va xs W (ha.kept hk));have HTB:=ae (fun W (hk:af w W)=>bh vb ys W (hb.kept hk));obtain ⟨a0,c0,rfl⟩:=ha.shape;obtain ⟨a1,c1,rfl⟩:=hb.shape;have HLA:Hid ((nw (nv xs)).length<=274877906944):=ae (Nat.le_trans (cD ha.wd) hla);have HLB:Hid ((nw (nv ys)).length<=274877906944):=ae (Nat.le_trans (cD hb.wd) hlb);generalize nv xs=A at *;generalize nv ys=B at *;generalize xs.length=n0 at *;generalize ys.length=n1 at *;clear ha hb hla hlb;go_enter Tryz.func115,Tryz.ntmps115;go_wp2_with fail;refine (HTA.out _ (af.refl _)).mono ?_;rintro e w1 ⟨⟨v1,rfl,hv1⟩,hk1⟩;go_wp2_with fail;refine (HTB.out _ hk1).mono ?_;rintro e w2 ⟨⟨v2,rfl,hv2⟩,hk2⟩;have H1:=ae (hv1.kept hk2);have H2:=ae hv2;have HK2:=ae (hk1.trans hk2);clear hv1 hv2 hk1 hk2;go_wp2_with fail;go_loopg [0,1] B (fun kx s0 s1 wr=>∃ (m n:Nat),Hid (ah wr s0 (nw m))/\Hid (ah wr s1 (nw n))/\n<=kx/\Hid (Nat.gcd m n=Nat.gcd A B)/\Hid ((nw m).length<=274877906944/\(nw n).length<=274877906944)/\Hid (af w wr))
 case atStart=>exact ⟨A,B,H1,H2,Nat.le_refl _,ae rfl,ae ⟨HLA.out,HLB.out⟩,HK2⟩
 case round =>
  obtain ⟨m,n,HS0,HS1,hkx,HG,HL,HK⟩:=hrel;obtain ⟨a2,c2,rfl⟩:=HS0.out.shape;obtain ⟨a3,c3,rfl⟩:=HS1.out.shape;by_cases hn:n=0
  ·have HR:Hid (nw m=nw (Nat.gcd A B)):=ae (by rw [<-HG.out,hn,Nat.gcd_zero_right]);have hl:(nw n).length=0:=by rw [hn,bY];rfl
   rw [hl];clear hl hn;generalize hlm:(nw m).length=lm at *;have HLM:=ae hlm;clear hlm;go_wp2;go_ret;exact ⟨⟨_,rfl,by rw [<-HR.out,<-HLM.out] ;first | exact HS0.out | (rw [HLM.out];exact HS0.out)⟩,HK.out⟩
  ·have hl:(nw n).length≠0:=fun h=>hn (cL.1 (List.eq_nil_of_length_eq_zero h))
   have HDV:=ae (lI _ _ _ _ _ HS0.out HS1.out HL.out.1 (by rw [am];exact hn));obtain ⟨r,hr⟩:∃ r,r=m % n:=⟨_,rfl⟩;have hrn:r<n:=by rw [hr];exact Nat.mod_lt _ (by omega)
   have HN:Hid (Nat.gcd n r=Nat.gcd A B):=ae (by rw [<-HG.out,hr,Nat.gcd_comm n,<-Nat.gcd_rec,Nat.gcd_comm]);have HLR:Hid ((nw n).length<=274877906944/\(nw r).length<=274877906944):=ae ⟨HL.out.2,Nat.le_trans (aL.2 (Nat.lt_trans hrn (aL.1 (Nat.le_refl _)))) HL.out.2⟩;have HR:=ae hr;obtain ⟨ln,hln⟩:∃ ln,ln=(nw n).length:=⟨_,rfl⟩;have hlp:(0:Int)<(ln:Int):=by omega
   have hlp2:0<ln:=by omega
   obtain ⟨lm,hlm⟩:∃ lm,lm=(nw m).length:=⟨_,rfl⟩;rw [<-hln,<-hlm] at HDV⊢;rw [<-hln] at HS1;clear hl hr hn hln hlm;go_wp2_with fail;refine HDV.out.mono ?_;rintro e w3 ⟨⟨v3,v4,rfl,hv3,hv4⟩,hk3⟩;rw [am,am,<-HR.out] at hv4;have H4:=ae hv4;have HS1':=ae (HS1.out.kept hk3);have HK3:=ae (HK.out.trans hk3);clear hv3 hv4 hk3;go_wp2_with fail;go_roundg r
   case measure=>omega
   case rel=>exact ⟨n,r,HS1',H4,Nat.le_refl _,HN,HLR,HK3⟩
theorem uz (va:Value) (xs:List Nat) (w:World) (ha:ah w va xs) :
  Calls Tryz.prog 206 #[va] w fun e w'=>(∃ k:Nat,e=.returned (.int .i64 k)/\(k=0 ↔ nv xs=0))/\w'=w:=by
 have HA:=ae ha;obtain ⟨a0,c0,rfl⟩:=ha.shape;obtain ⟨n,hn⟩:∃ n,n=xs.length:=⟨_,rfl⟩;have hn9:n<=1099511627776:=by rw [hn];exact ha.len
 rw [<-hn] at HA⊢;have HN:=ae hn;clear ha hn;go_enter Tryz.func206,Tryz.ntmps206;go_wp2_with fail;go_loopg [3] n (fun kx s3 wr=>∃ k:Nat,s3=.int .i64 ((k:Int) - 1)/\k<=n/\k<=kx/\Hid (∀ i,k<=i->xs.getD i 0=0)/\w=wr)
 case atStart=>exact ⟨n,rfl,Nat.le_refl _,Nat.le_refl _,ae (fun i hi=>by have:=HN.out;simp [List.getD_eq_getElem?_getD,show xs.length<=i by omega]),rfl⟩
 case round =>
  obtain ⟨k,rfl,hk,hkx,HZ,rfl⟩:=hrel;by_cases hk0:k=0
  ·subst hk0;have HV:Hid (nv xs=0):=ae (lK xs fun i=>HZ.out i (by omega));go_wp2;go_ret;exact ⟨⟨0,rfl,by simp [HV.out]⟩,rfl⟩
  ·obtain ⟨j,rfl⟩:∃ j,k=j+1:=⟨k - 1,by omega⟩;obtain ⟨b,o,rfl,hc⟩:=HA.out.get j (by have:=HN.out;omega);have hx9:=HA.out.wd.getD j;obtain ⟨x,hx⟩:∃ x,x=xs.getD j 0:=⟨_,rfl⟩;rw [<-hx] at hc hx9;have e1:((j+1:Nat):Int) - 1=(j:Int):=by omega
   have hj0:(0:Int)<=(j:Int):=by omega
   have hjn:(j:Int)<(n:Int):=by omega
   have HX:=ae hx;rw [e1];clear hx e1 hk0;by_cases hx0:x=0
   ·subst hx0;go_wp2_with fail;go_roundg j
    case measure=>omega
    case rel=>exact ⟨j,rfl,by omega,Nat.le_refl _,ae (fun i hi=>by
     by_cases h:i=j
     ·rw [h];exact HX.out.symm
     ·exact HZ.out i (by omega)),rfl⟩
   ·obtain ⟨p,hp,_⟩:=mC (x:=x) (Nat.lt_of_lt_of_le hx9 (by omega)) hx0;have hp32:p+1<=32:=by rw [<-hp];exact Lib.bitLen_le x 32 (by omega) (by rw [show (2:Nat)^32=4294967296 by rfl];exact hx9)
    have HB:Hid (Calls Tryz.prog 201 #[.int .u32 (x:Int)] w fun e w'=>e=.returned (.int .i64 ((p+1:Nat):Int))/\w'=w):=ae (by
     have h:=Tryz.bits_Len32 (x:Int) w (by omega) (by omega);simp only [Int.toNat_natCast,hp] at h;exact h)
    have hb:((x:Int) == 0)=false:=by simp;exact hx0
    have hb':((x:Int) != 0)=true:=by simp;exact hx0
    have HNE:Hid (nv xs≠0):=ae fun h=>hx0 (by rw [HX.out];exact lL h j)
    obtain ⟨q,hq⟩:∃ q,q=p+1:=⟨_,rfl⟩;rw [<-hq] at HB hp32;obtain ⟨t,ht⟩:∃ t,t=32*j:=⟨_,rfl⟩;have et:32*(j:Int)=(t:Int):=by omega
    have ht9:t<=35184372088832:=by omega
    obtain ⟨z,hz⟩:∃ z,z=t+q:=⟨_,rfl⟩;have ez:(t:Int)+(q:Int)=(z:Int):=by omega
    have hz9:z<=35184372088864:=by omega
    have HZ0:Hid (z≠0):=ae (by omega);clear hp hq ht hz hx0;go_wp2_with (go_at_call 201;(with_reducible refine HB.out.mono ?_);rintro e w3 ⟨rfl,rfl⟩);go_ret;exact ⟨⟨z,rfl,⟨fun h=>absurd h HZ0.out,fun h=>absurd h HNE.out⟩⟩,rfl⟩
def RatAt (w:World) (v:Value) (r:Rw):Prop:=∃ u1 u2,v=.agg #[.bool r.neg,u1,u2]/\ah w u1 r.num/\ah w u2 r.den
theorem RatAt.kept {w w':World} {v:Value} {r:Rw} (h:RatAt w v r) (hk:af w w'):RatAt w' v r:=by
 obtain ⟨u1,u2,h1,h2,h3⟩:=h;exact ⟨u1,u2,h1,h2.kept hk,h3.kept hk⟩
theorem RatAt.ok {w:World} {v:Value} {r:Rw} (h:RatAt w v r):r.Ok:=by obtain ⟨u1,u2,_,h2,h3⟩:=h;exact ⟨h2.wd,h3.wd⟩
def Rw.Short (r:Rw) (n:Nat):Prop:=r.num.length<=n/\r.den.length<=n
theorem RatAt.zero (w:World):RatAt w (.agg #[.bool false,.slice none 0 0,.slice none 0 0]) ⟨false,[],[]⟩:=⟨_,_,rfl,ah.nil w,ah.nil w⟩
theorem gF (w:World):Calls Tryz.prog 93 #[] w fun e w'=>(∃ v,e=.returned v/\ah w' v [1])/\af w w':=by
 go_enter Tryz.func93,Tryz.ntmps93;go_wp2;go_ret;exact ⟨⟨_,rfl,jC w 1 (by omega)⟩,(af.refl _).alloc _⟩
theorem lZ (v:Value) (xs:List Nat) (w:World) (hv:ah w v xs):Calls Tryz.prog 114 #[v] w fun e w'=>e=.returned (.bool (bO xs))/\w'=w:=by
 obtain ⟨a,c,rfl⟩:=hv.shape;have hl:=hv.len;obtain ⟨n,hn⟩:∃ n,n=xs.length:=⟨_,rfl⟩;rw [<-hn] at hv hl⊢;by_cases h0:n=0
 ·have hp:bO xs=false:=by unfold bO;rw [<-hn,h0];rfl
  rw [hp];subst h0;clear hv hn hp;go_enter Tryz.func114,Tryz.ntmps114;go_wp2;go_ret;exact ⟨rfl,rfl⟩
 ·obtain ⟨m,hm⟩:∃ m,n=m+1:=⟨n - 1,by omega⟩;obtain ⟨b,o,rfl,hc⟩:=hv.get m (by omega);obtain ⟨x,hx⟩:∃ x,x=xs.getD m 0:=⟨_,rfl⟩
  have hp:bO xs=!((x:Int) == 0):=by
   unfold bO;rw [<-hn,hm,Nat.add_sub_cancel,<-hx];by_cases h:x=0
   ·simp [h]
   ·have:((x:Int) == 0)=false:=by simp;exact h
    simp [h,this]
  rw [hp];rw [<-hx] at hc;have e1:(n:Int) - 1=(m:Int):=by omega
  have hp0:(0:Int)<(n:Int):=by omega
  have hp1:0<n:=by omega
  have hmn:m<n:=by omega
  have hmn':(m:Int)<(n:Int):=by omega
  obtain ⟨bx,hbx⟩:∃ bx,((x:Int) == 0)=bx:=⟨_,rfl⟩;rw [hbx];clear hv hn hp hx hm h0;cases bx with
  | true =>
   have hbn:((x:Int) != 0)=false:=by simp [bne,hbx]
   go_enter Tryz.func114,Tryz.ntmps114;go_wp2;go_ret;exact ⟨by first | rfl | simp,rfl⟩
  | false =>
   have hbn:((x:Int) != 0)=true:=by simp [bne,hbx]
   go_enter Tryz.func114,Tryz.ntmps114;go_wp2;go_ret;exact ⟨by first | rfl | simp,rfl⟩
theorem yu (g:Nat):(cU g 1 == 0)=(g == 1):=by
 rcases Nat.lt_trichotomy g 1 with h | h | h
 ·rw [ff h]
  have:(g == 1)=false:=by simp;omega
  rw [this];rfl
 ·rw [fe h];simp [h]
 ·rw [eJ h]
  have:(g == 1)=false:=by simp;omega
  rw [this];rfl
theorem ju (v:Value) (r:Rw) (w:World) (hv:RatAt w v r) (hs:r.Short 274877906944):Calls Tryz.prog 68 #[v] w fun e w'=>e=.returned (.bool (br r))/\af w w':=by
 obtain ⟨neg,num,den⟩:=r;obtain ⟨u1,u2,rfl,h1,h2⟩:=hv;obtain ⟨hs1,hs2⟩:=hs;simp only at h1 h2 hs1 hs2;obtain ⟨a1,c1,rfl⟩:=h1.shape;obtain ⟨a2,c2,rfl⟩:=h2.shape;obtain ⟨n1,hn1⟩:∃ n1,n1=num.length:=⟨_,rfl⟩;obtain ⟨n2,hn2⟩:∃ n2,n2=den.length:=⟨_,rfl⟩;rw [<-hn1] at h1⊢;rw [<-hn2] at h2⊢;have HR:=ae (ai.made w #[.bool neg,.slice a1 n1 c1,.slice a2 n2 c2] 29);have HK0:Hid (af w (w.alloc (.cells #[.bool neg,.slice a1 n1 c1,.slice a2 n2 c2] 29))):=ae ((af.refl w).alloc _);have H1:=ae h1;have H2:=ae h2;by_cases he:num=[]/\den=[]
 ·have hV:br ⟨neg,num,den⟩=!neg:=by unfold br;rw [if_pos he]
  have e1:n1=0:=by rw [hn1,he.1];rfl
  have e2:n2=0:=by rw [hn2,he.2];rfl
  rw [hV];subst e1 e2;clear h1 h2 hn1 hn2 hV he HR;go_enter Tryz.func68,Tryz.ntmps68;go_wp2;go_ret;exact ⟨rfl,HK0.out⟩
 ·have hV:br ⟨neg,num,den⟩=(bO num&&bO den&&(Nat.gcd (nv num) (nv den) == 1)):=by unfold br;rw [if_neg he]
  rw [hV];have HP1:=ae (fun W (hk:af w W)=>lZ _ num W (h1.kept hk));have HP2:=ae (fun W (hk:af w W)=>lZ _ den W (h2.kept hk));have HGC:=ae (fun W (hk:af w W)=>pQ _ _ num den W (h1.kept hk) (h2.kept hk) hs1 hs2);generalize bO den=p2 at *;obtain ⟨p1,hp1⟩:∃ p1,p1=bO num:=⟨_,rfl⟩;rw [<-hp1] at HP1⊢
  have hc:(n1≠0)\/(n1=0/\n2≠0/\p1=false):=by
   by_cases h:n1=0
   ·refine .inr ⟨h,fun h3=>he ⟨List.eq_nil_of_length_eq_zero (hn1.symm.trans h),List.eq_nil_of_length_eq_zero (hn2.symm.trans h3)⟩,?_⟩;rw [hp1,List.eq_nil_of_length_eq_zero (hn1.symm.trans h)];rfl
   ·exact .inl h
  generalize Nat.gcd (nv num) (nv den)=g at *
  have HG1:Hid (∀ W v1 v2,ah W v1 (nw g)->ah W v2 [1]->Calls Tryz.prog 69 #[v1,v2] W fun e w'=>e=.returned (.int .i64 (cU g 1))/\af W w'):=ae fun W v1 v2 k1 k2=>by
   have h:=dM v1 v2 _ _ W k1 k2;rw [am] at h;exact h
  obtain ⟨bg,hbg⟩:∃ bg,(g == 1)=bg:=⟨_,rfl⟩;have hcm:=yu g;rw [hbg] at hcm⊢;obtain ⟨cg,hcg⟩:∃ cg,cg=cU g 1:=⟨_,rfl⟩;rw [<-hcg] at hcm HG1;clear h1 h2 hn1 hn2 hV he hp1 hbg hcg hs1 hs2;rcases hc with hc | ⟨hc,hc2,rfl⟩
  ·have hb1:((n1:Int) == 0)=false:=by simp;exact hc
   clear hc;cases p1 with
   | false =>
    go_enter Tryz.func68,Tryz.ntmps68;go_wp2_with (go_at_call 114;(with_reducible refine (HP1.out _ HK0.out).mono ?_);rintro e w2 ⟨rfl,rfl⟩);go_ret;exact ⟨by simp,HK0.out⟩
   | true =>
    cases p2 with
    | false =>
     go_enter Tryz.func68,Tryz.ntmps68;go_wp2_with (first | (go_at_call 114;(with_reducible refine (HP1.out _ HK0.out).mono ?_);rintro e w2 ⟨rfl,rfl⟩) | (go_at_call 114;(with_reducible refine (HP2.out _ HK0.out).mono ?_);rintro e w2 ⟨rfl,rfl⟩));go_ret;exact ⟨by simp,HK0.out⟩
    | true =>
     go_enter Tryz.func68,Tryz.ntmps68
     go_wp2_with (first
      | (go_at_call 114;(with_reducible refine (HP1.out _ HK0.out).mono ?_);rintro e w2 ⟨rfl,rfl⟩)
      | (go_at_call 114;(with_reducible refine (HP2.out _ HK0.out).mono ?_);rintro e w2 ⟨rfl,rfl⟩)
      | (go_at_call 115;(with_reducible refine (HGC.out _ HK0.out).mono ?_);rintro e w2 ⟨⟨vg,rfl,hvg⟩,hk2⟩;have HVG:=ae hvg;have HK2:=ae (HK0.out.trans hk2);clear hvg hk2)
      | (go_at_call 93;(with_reducible refine (gF _).mono ?_);rintro e w3 ⟨⟨vo,rfl,hvo⟩,hk3⟩;have HVG3:=ae (HVG.out.kept hk3);have HVO:=ae hvo;have HK3:=ae (HK2.out.trans hk3);clear hvo hk3)
      | (go_at_call 69;(with_reducible refine (HG1.out _ _ _ HVG3.out HVO.out).mono ?_);rintro e w4 ⟨rfl,hk4⟩;have HK4:=ae (HK3.out.trans hk4);clear hk4))
     go_ret;exact ⟨by simp,HK4.out⟩
  ·have hb1:((n2:Int) == 0)=false:=by simp;exact hc2
   subst hc;clear hc2;go_enter Tryz.func68,Tryz.ntmps68;go_wp2_with (go_at_call 114;(with_reducible refine (HP1.out _ HK0.out).mono ?_);rintro e w2 ⟨rfl,rfl⟩);go_ret;exact ⟨by simp,HK0.out⟩
def a_ (w:World) (g:Nat) (xs:List Value):Prop:=∃ cur e,w.heap[g]?=some (.cells cur e (0,0))/\cur.toList=xs
theorem a_.made (w:World) (cs:Array Value) (e:TypeId):a_ (w.alloc (.cells cs e)) w.heap.size cs.toList:=⟨cs,e,heap_alloc_new w _,rfl⟩
theorem a_.lt {w:World} {g:Nat} {xs:List Value} (h:a_ w g xs):g<w.heap.size:=by
 obtain ⟨cur,e,h1,_⟩:=h;rcases Nat.lt_or_ge g w.heap.size with h2 | h2
 ·exact h2
 ·simp [Array.getElem?_eq_none h2] at h1
theorem a_.kept {w w':World} {g:Nat} {xs:List Value} (h:a_ w g xs) (hk:af w w'):a_ w' g xs:=by
 have hl:=h.lt;obtain ⟨cur,e,h1,h2⟩:=h;exact ⟨cur,e,(hk.block g hl).trans h1,h2⟩
theorem a_.only {w:World} {g i:Nat} {xs:List Value} {u:Value} (h:a_ w g xs) (hc:w.cell? ⟨g,i,none⟩=some u):u∈xs:=by
 obtain ⟨arr,e,h1,h2⟩:=h;simp only [World.cell?,h1] at hc;rw [<-h2];have:=Array.mem_of_getElem? hc;simpa using this
theorem ah.apart {w w':World} {g:Nat} {v:Value} {xs:List Nat} {row:List Value} (h:ah w v xs) (hr:a_ w g row) (hn:∀ k x,Value.int k x ∉ row) (ho:aH g w w'):ah w' v xs:=by
 obtain ⟨a,c,h1,h2,h3,h4,h5⟩:=h;refine ⟨a,c,h1,h2,h3,h4,fun i hi=>?_⟩;obtain ⟨b,o,h6,h7⟩:=h5 i hi;refine ⟨b,o,h6,?_⟩
 have hne:b≠g:=fun e=>by
  subst e;exact hn _ _ (hr.only h7)
 have hlt:b<w.heap.size:=by
  rcases Nat.lt_or_ge b w.heap.size with h8 | h8
  ·exact h8
  ·simp [World.cell?,Array.getElem?_eq_none h8] at h7
 have:=ho.block b hlt hne;simp only [World.cell?,this] at h7⊢;exact h7
theorem bU (v:Value) (r:Rw) (w:World) (hv:RatAt w v r) (hs:r.Short 274877906944):Calls Tryz.prog 62 #[v] w fun e w'=>(∃ u1 u2,e=.returned (.tuple #[.bool (ag r).1,u1,u2])/\ah w' u1 (ag r).2.1/\ah w' u2 (ag r).2.2)/\af w w':=by
 have HVA:=ae (fun W (hk:af w W)=>ju v r W (hv.kept hk) hs);obtain ⟨neg,num,den⟩:=r;obtain ⟨u1,u2,rfl,h1,h2⟩:=hv;simp only at h1 h2;obtain ⟨a1,c1,rfl⟩:=h1.shape;obtain ⟨a2,c2,rfl⟩:=h2.shape;obtain ⟨n1,hn1⟩:∃ n1,n1=num.length:=⟨_,rfl⟩;obtain ⟨n2,hn2⟩:∃ n2,n2=den.length:=⟨_,rfl⟩;rw [<-hn1] at h1 HVA⊢;rw [<-hn2] at h2 HVA⊢;have H1:=ae h1;have H2:=ae h2;obtain ⟨w1,hw1⟩:∃ w1,w1=w.alloc (.cells #[.bool neg,.slice a1 n1 c1,.slice a2 n2 c2] 29):=⟨_,rfl⟩;have HR:Hid (ai w1 w.heap.size 29 [.bool neg,.slice a1 n1 c1,.slice a2 n2 c2]):=ae (by rw [hw1];exact ai.made w #[.bool neg,.slice a1 n1 c1,.slice a2 n2 c2] 29);have HK0:Hid (af w w1):=ae (by rw [hw1];exact (af.refl w).alloc _);have q0:=HR.out.cell (i:=0) (by simp);have q1:=HR.out.cell (i:=1) (by simp);have q2:=HR.out.cell (i:=2) (by simp);simp only [List.getElem_cons_succ,List.getElem_cons_zero] at q0 q1 q2;have HW1:=ae hw1;clear hw1;by_cases hg:br ⟨neg,num,den⟩=true/\num≠[]
 ·have hP:ag ⟨neg,num,den⟩=(neg,num,den):=by unfold ag;rw [if_pos hg]
  rw [hP];rw [hg.1] at HVA
  have hb1:((n1:Int) == 0)=false:=by
   have:n1≠0:=fun h=>hg.2 (List.eq_nil_of_length_eq_zero (hn1.symm.trans h))
   simp;exact this
  clear h1 h2 hP hg hn1 hn2 hs;go_enter Tryz.func62,Tryz.ntmps62;go_wp2_with fail;rw [<-HW1.out];refine (HVA.out _ HK0.out).mono ?_;rintro e w2 ⟨rfl,hk2⟩;have y0:=hk2.cell q0;have y1:=hk2.cell q1;have y2:=hk2.cell q2;have HK2:=ae (HK0.out.trans hk2);clear hk2 q0 q1 q2;go_wp2_with fail;go_quiet (fail);go_wp2;go_ret3;exact ⟨⟨_,_,rfl,H1.out.kept (HK2.out.drewN _),H2.out.kept (HK2.out.drewN _)⟩,HK2.out.drewN _⟩
 ·have hP:ag ⟨neg,num,den⟩=(false,[],[1]):=by unfold ag;rw [if_neg hg]
  rw [hP];by_cases hvv:br ⟨neg,num,den⟩=true
  ·have h0:n1=0:=by
    rw [hn1];by_cases h:num=[]
    ·rw [h];rfl
    ·exact absurd ⟨hvv,h⟩ hg
   rw [hvv] at HVA;subst h0;clear h1 h2 hP hg hn1 hn2 hs hvv;go_enter Tryz.func62,Tryz.ntmps62;go_wp2_with fail;rw [<-HW1.out];refine (HVA.out _ HK0.out).mono ?_;rintro e w2 ⟨rfl,hk2⟩;have y1:=hk2.cell q1;have HK2:=ae (HK0.out.trans hk2);clear hk2 q0 q1 q2;go_wp2_with fail;refine (gF _).mono ?_;rintro e w3 ⟨⟨v3,rfl,hv3⟩,hk3⟩;have H3:=ae hv3;have HK3:=ae (HK2.out.trans hk3);clear hv3 hk3;go_wp2;go_ret3;exact ⟨⟨_,_,rfl,ah.nil _,H3.out⟩,HK3.out⟩
  ·have hvf:br ⟨neg,num,den⟩=false:=by simpa using hvv
   rw [hvf] at HVA;clear h1 h2 hP hg hn1 hn2 hs hvv hvf;go_enter Tryz.func62,Tryz.ntmps62;go_wp2_with fail;rw [<-HW1.out];refine (HVA.out _ HK0.out).mono ?_;rintro e w2 ⟨rfl,hk2⟩;have HK2:=ae (HK0.out.trans hk2);clear hk2 q0 q1 q2;go_wp2_with fail;refine (gF _).mono ?_;rintro e w3 ⟨⟨v3,rfl,hv3⟩,hk3⟩;have H3:=ae hv3;have HK3:=ae (HK2.out.trans hk3);clear hv3 hk3;go_wp2;go_ret3;exact ⟨⟨_,_,rfl,ah.nil _,H3.out⟩,HK3.out⟩
theorem dZ (neg:Bool) (va vb:Value) (xs ys:List Nat) (w:World) (ha:ah w va xs) (hb:ah w vb ys) (hla:xs.length<=274877906944) (hlb:ys.length<=274877906944) (hd:nv ys≠0) :
  Calls Tryz.prog 141 #[.bool neg,va,vb] w fun e w'=>(∃ v,e=.returned v/\RatAt w' v (fE neg (nv xs) (nv ys)))/\af w w':=by
 have HB:=ae (fun W (hk:af w W)=>uz va xs W (ha.kept hk));have HG:=ae (fun W (hk:af w W)=>pQ va vb xs ys W (ha.kept hk) (hb.kept hk) hla hlb)
 have HD1:Hid (∀ W vg,af w W->ah W vg (nw (Nat.gcd (nv xs) (nv ys)))->Calls Tryz.prog 177 #[va,vg] W fun e w'=>(∃ v1 v2,e=.returned (.tuple #[v1,v2,.nilIface])/\ah w' v1 (nw (nv xs / Nat.gcd (nv xs) (nv ys))))/\af W w'):=ae fun W vg hk hg =>
  (lI va vg xs _ W (ha.kept hk) hg hla (by rw [am];exact fun h=>hd (Nat.eq_zero_of_gcd_eq_zero_right h))).mono fun _ _ ⟨⟨v1,v2,h1,h2,_⟩,h3⟩=>⟨⟨v1,v2,h1,by rw [am] at h2;exact h2⟩,h3⟩
 have HD2:Hid (∀ W vg,af w W->ah W vg (nw (Nat.gcd (nv xs) (nv ys)))->Calls Tryz.prog 177 #[vb,vg] W fun e w'=>(∃ v1 v2,e=.returned (.tuple #[v1,v2,.nilIface])/\ah w' v1 (nw (nv ys / Nat.gcd (nv xs) (nv ys))))/\af W w'):=ae fun W vg hk hg =>
  (lI vb vg ys _ W (hb.kept hk) hg hlb (by rw [am];exact fun h=>hd (Nat.eq_zero_of_gcd_eq_zero_right h))).mono fun _ _ ⟨⟨v1,v2,h1,h2,_⟩,h3⟩=>⟨⟨v1,v2,h1,by rw [am] at h2;exact h2⟩,h3⟩
 obtain ⟨a0,c0,rfl⟩:=ha.shape;obtain ⟨a1,c1,rfl⟩:=hb.shape;generalize xs.length=n0 at *;generalize ys.length=n1 at *;obtain ⟨w1,hw1⟩:∃ w1,w1=w.alloc (.cells #[.bool false,.slice none 0 0,.slice none 0 0] 29):=⟨_,rfl⟩;have HR:Hid (ai w1 w.heap.size 29 [.bool false,.slice none 0 0,.slice none 0 0]):=ae (by rw [hw1];exact ai.made w #[.bool false,.slice none 0 0,.slice none 0 0] 29);have HK0:Hid (af w w1):=ae (by rw [hw1];exact (af.refl w).alloc _);have HFX:Hid (a_ w1 w.heap.size [.bool false,.slice none 0 0,.slice none 0 0]):=ae (by rw [hw1];exact a_.made w #[.bool false,.slice none 0 0,.slice none 0 0] 29);have HW1:=ae hw1;clear hw1 ha hb hla hlb hd;by_cases h0:nv xs=0
 ·have hF:fE neg (nv xs) (nv ys)=⟨false,[],[]⟩:=by unfold fE;rw [if_pos h0]
  rw [hF];have H0:=ae h0;clear hF h0;go_enter Tryz.func141,Tryz.ntmps141;go_wp2_with fail;rw [<-HW1.out];refine (HB.out _ HK0.out).mono ?_;rintro e w2 ⟨⟨k,rfl,hk⟩,rfl⟩;have hk0:k=0:=hk.2 H0.out;subst hk0;clear hk;have g0:=HR.out.cell (i:=0) (by simp);have g1:=HR.out.cell (i:=1) (by simp);have g2:=HR.out.cell (i:=2) (by simp);have f0:=HR.out.free 0;have f1:=HR.out.free 1;have f2:=HR.out.free 2;go_wp2;have hF:=(((HR.out.store 0 (.bool false)).store 1 (.slice none 0 0)).store 2 (.slice none 0 0));have y0:=hF.cell (i:=0) (by simp);have y1:=hF.cell (i:=1) (by simp);have y2:=hF.cell (i:=2) (by simp);simp only [List.set_cons_zero,List.set_cons_succ,List.getElem_cons_succ,List.getElem_cons_zero] at y0 y1 y2;refine bodyPost_ret (v:=.agg #[.bool false,.slice none 0 0,.slice none 0 0]) ?_ rfl ⟨⟨_,rfl,RatAt.zero _⟩,?_⟩
  ·simp [results,Tryz.results141,go_sem,y0,y1,y2]
  ·exact ((HK0.out.store (Nat.le_refl _) _ _).store (Nat.le_refl _) _ _).store (Nat.le_refl _) _ _
 ·have hF:fE neg (nv xs) (nv ys)=⟨neg,nw (nv xs / Nat.gcd (nv xs) (nv ys)),nw (nv ys / Nat.gcd (nv xs) (nv ys))⟩:=by unfold fE;rw [if_neg h0]
  rw [hF];have H0:=ae h0;clear hF h0;generalize nw (nv xs / Nat.gcd (nv xs) (nv ys))=P at *;generalize nw (nv ys / Nat.gcd (nv xs) (nv ys))=Q at *;generalize nw (Nat.gcd (nv xs) (nv ys))=G at *;go_enter Tryz.func141,Tryz.ntmps141;go_wp2_with fail;rw [<-HW1.out];refine (HB.out _ HK0.out).mono ?_;rintro e w2 ⟨⟨k,rfl,hk⟩,rfl⟩
  have hk0:((k:Int) == 0)=false:=by
   have:k≠0:=fun h=>H0.out (hk.1 h)
   simp;exact this
  clear hk;go_wp2_with fail;refine (HG.out _ HK0.out).mono ?_;rintro e w3 ⟨⟨v3,rfl,hv3⟩,hk3⟩;have HV3:=ae hv3;have HK3:=ae (HK0.out.trans hk3);have HR3:=ae (HR.out.kept hk3);have HFX3:=ae (HFX.out.kept hk3);clear hv3 hk3 hk0;go_wp2_with fail;refine (HD1.out _ _ HK3.out HV3.out).mono ?_;rintro e w4 ⟨⟨v4,v5,rfl,hv4⟩,hk4⟩;have HV4:=ae hv4;have HV3':=ae (HV3.out.kept hk4);have HK4:=ae (HK3.out.trans hk4);have HR4:=ae (HR3.out.kept hk4);have HFX4:=ae (HFX3.out.kept hk4);clear hv4 hk4;go_wp2_with fail;refine (HD2.out _ _ HK4.out HV3'.out).mono ?_;rintro e w5 ⟨⟨v6,v7,rfl,hv6⟩,hk5⟩;have HV6:=ae hv6;have HV4':=ae (HV4.out.kept hk5);have HK5:=ae (HK4.out.trans hk5);have HR5:=ae (HR4.out.kept hk5);have HFX5:=ae (HFX4.out.kept hk5);clear hv6 hk5;obtain ⟨a4,c4,rfl⟩:=HV4'.out.shape;obtain ⟨a6,c6,rfl⟩:=HV6.out.shape;have g0:=HR5.out.cell (i:=0) (by simp);have g1:=HR5.out.cell (i:=1) (by simp);have g2:=HR5.out.cell (i:=2) (by simp);have f0:=HR5.out.free 0;have f1:=HR5.out.free 1;have f2:=HR5.out.free 2;go_wp2;have hF:=(((HR5.out.store 0 (.bool neg)).store 1 (.slice a4 P.length c4)).store 2 (.slice a6 Q.length c6));have y0:=hF.cell (i:=0) (by simp);have y1:=hF.cell (i:=1) (by simp);have y2:=hF.cell (i:=2) (by simp);simp only [List.set_cons_zero,List.set_cons_succ,List.getElem_cons_succ,List.getElem_cons_zero] at y0 y1 y2
  have hO:=(((aH.refl w.heap.size w5).store 0 (.bool neg)).store 1 (.slice a4 P.length c4)).store 2 (.slice a6 Q.length c6);have z1:=HV4'.out.apart HFX5.out (by simp) hO;have z2:=HV6.out.apart HFX5.out (by simp) hO;refine bodyPost_ret (v:=.agg #[.bool neg,.slice a4 P.length c4,.slice a6 Q.length c6]) ?_ rfl ⟨⟨_,rfl,⟨_,_,rfl,z1,z2⟩⟩,?_⟩
  ·simp [results,Tryz.results141,go_sem,y0,y1,y2]
  ·exact ((HK5.out.store (Nat.le_refl _) _ _).store (Nat.le_refl _) _ _).store (Nat.le_refl _) _ _
theorem aI {r:Rw} {k:Nat} (h:r.Short k) (hk:1<=k):(ag r).2.1.length<=k/\(ag r).2.2.length<=k:=by
 unfold ag;split
 ·exact h
 ·exact ⟨by simp,by simpa using hk⟩
theorem jY (r:Rw):mkRat (sg (!(ag r).1) (nv (ag r).2.1)) (nv (ag r).2.2)=- al r:=by
 unfold al;rw [An,Rat.neg_mkRat]
theorem jX {r s:Rw}:mkRat (sg ((ag r).1 != (ag s).1) (nv (ag r).2.1*nv (ag s).2.1)) (nv (ag r).2.2*nv (ag s).2.2)=al r*al s:=by
 unfold al;rw [Am,Rat.mkRat_mul_mkRat]
theorem jW {r s:Rw} (hr:r.Ok) (hs:s.Ok) (h:(ag r).1=(ag s).1):mkRat (sg (ag r).1 (nv (ag r).2.1*nv (ag s).2.2+nv (ag s).2.1*nv (ag r).2.2)) (nv (ag r).2.2*nv (ag s).2.2)=al r+al s:=by
 unfold al;rw [Rat.mkRat_add_mkRat _ _ (aG hr).2.2.1 (aG hs).2.2.1,Al,fJ,h,fJ]
theorem j_ {r s:Rw} (hr:r.Ok) (hs:s.Ok) (h:(ag r).1≠(ag s).1) (hle:nv (ag s).2.1*nv (ag r).2.2<=nv (ag r).2.1*nv (ag s).2.2):mkRat (sg (ag r).1 (nv (ag r).2.1*nv (ag s).2.2 - nv (ag s).2.1*nv (ag r).2.2)) (nv (ag r).2.2*nv (ag s).2.2)=al r+al s:=by
 unfold al;rw [Rat.mkRat_add_mkRat _ _ (aG hr).2.2.1 (aG hs).2.2.1,Ao h hle,fJ,fJ]
theorem iQ {r s:Rw} (hr:r.Ok) (hs:s.Ok) (h:(ag r).1≠(ag s).1) (hle:nv (ag r).2.1*nv (ag s).2.2<=nv (ag s).2.1*nv (ag r).2.2):mkRat (sg (ag s).1 (nv (ag s).2.1*nv (ag r).2.2 - nv (ag r).2.1*nv (ag s).2.2)) (nv (ag r).2.2*nv (ag s).2.2)=al r+al s:=by
 unfold al;rw [Rat.mkRat_add_mkRat _ _ (aG hr).2.2.1 (aG hs).2.2.1,yZ h hle,fJ,fJ]
theorem mf {r:Rw} (hr:r.Ok):((ag r).2.1.length=0 ↔ al r=0)/\((ag r).2.1.length≠0->((ag r).1=true ↔ al r<0)):=by
 have hok:=aG hr
 have h0:(ag r).2.1.length=0 ↔ nv (ag r).2.1=0:=by
  constructor
  ·intro h;rw [List.eq_nil_of_length_eq_zero h];rfl
  ·intro h;have:=ti hok.1 hok.2.2.2.1;rw [h,bY] at this;rw [<-this];rfl
 have h1:al r=0 ↔ nv (ag r).2.1=0:=by
  unfold al;rw [Rat.mkRat_eq_zero hok.2.2.1];constructor
  ·intro h;have:=oK (ag r).1 (nv (ag r).2.1);rw [h] at this;simpa using this.symm
  ·intro h;rw [h];exact kU _
 refine ⟨h0.trans h1.symm,fun hne=>?_⟩;have hn:nv (ag r).2.1≠0:=fun h=>hne (h0.2 h)
 unfold al
 have h2:mkRat (sg (ag r).1 (nv (ag r).2.1)) (nv (ag r).2.2)<0 ↔ sg (ag r).1 (nv (ag r).2.1)<0:=by
  have hd:(0:Int)<(nv (ag r).2.2:Int):=by have:=hok.2.2.1;omega
  rw [<-Rat.divInt_ofNat,<-Int.not_le,<-Rat.not_le];rw [show (0<=Rat.divInt (sg (ag r).1 (nv (ag r).2.1)) (nv (ag r).2.2:Int)) ↔ 0<=sg (ag r).1 (nv (ag r).2.1) from Rat.divInt_nonneg_iff_of_pos_right hd]
 rw [h2];unfold sg;cases (ag r).1 with
 | true=>simp;omega
 | false=>simp
theorem az {w:World} {g:Nat} {T:TypeId} {v1 v2:Value} {r:Rw} (hr:ai w g T [.bool false,.slice none 0 0,.slice none 0 0]) (hf:a_ w g [.bool false,.slice none 0 0,.slice none 0 0]) (h1:ah w v1 r.num) (h2:ah w v2 r.den) :
  (((w.setCell ⟨g,0,none⟩ (.bool r.neg)).setCell ⟨g,1,none⟩ v1).setCell ⟨g,2,none⟩ v2).cell? ⟨g,0,none⟩=some (.bool r.neg) /\
  (((w.setCell ⟨g,0,none⟩ (.bool r.neg)).setCell ⟨g,1,none⟩ v1).setCell ⟨g,2,none⟩ v2).cell? ⟨g,1,none⟩=some v1 /\
  (((w.setCell ⟨g,0,none⟩ (.bool r.neg)).setCell ⟨g,1,none⟩ v1).setCell ⟨g,2,none⟩ v2).cell? ⟨g,2,none⟩=some v2 /\
  RatAt (((w.setCell ⟨g,0,none⟩ (.bool r.neg)).setCell ⟨g,1,none⟩ v1).setCell ⟨g,2,none⟩ v2) (.agg #[.bool r.neg,v1,v2]) r:=by
 have hF:=(((hr.store 0 (.bool r.neg)).store 1 v1).store 2 v2);have y0:=hF.cell (i:=0) (by simp);have y1:=hF.cell (i:=1) (by simp);have y2:=hF.cell (i:=2) (by simp);simp only [List.set_cons_zero,List.set_cons_succ,List.getElem_cons_succ,List.getElem_cons_zero] at y0 y1 y2;have hO:=(((aH.refl g w).store 0 (.bool r.neg)).store 1 v1).store 2 v2;exact ⟨y0,y1,y2,_,_,rfl,h1.apart hf (by simp) hO,h2.apart hf (by simp) hO⟩
theorem jz (w:World) (box:Obj):ai ((w.alloc box).alloc (.cells #[.bool false,.slice none 0 0,.slice none 0 0] 29)) (w.heap.size+1) 29 [.bool false,.slice none 0 0,.slice none 0 0]/\a_ ((w.alloc box).alloc (.cells #[.bool false,.slice none 0 0,.slice none 0 0] 29)) (w.heap.size+1) [.bool false,.slice none 0 0,.slice none 0 0]/\af w ((w.alloc box).alloc (.cells #[.bool false,.slice none 0 0,.slice none 0 0] 29)):=by
 have h1:=ai.made (w.alloc box) #[.bool false,.slice none 0 0,.slice none 0 0] 29;have h2:=a_.made (w.alloc box) #[.bool false,.slice none 0 0,.slice none 0 0] 29;simp only [World.size_alloc] at h1 h2;exact ⟨h1,h2,((af.refl w).alloc _).alloc _⟩
theorem cM (w:World) (b1 b2:Obj):ai (((w.alloc b1).alloc b2).alloc (.cells #[.bool false,.slice none 0 0,.slice none 0 0] 29)) (w.heap.size+1+1) 29 [.bool false,.slice none 0 0,.slice none 0 0]/\a_ (((w.alloc b1).alloc b2).alloc (.cells #[.bool false,.slice none 0 0,.slice none 0 0] 29)) (w.heap.size+1+1) [.bool false,.slice none 0 0,.slice none 0 0]/\af w (((w.alloc b1).alloc b2).alloc (.cells #[.bool false,.slice none 0 0,.slice none 0 0] 29)):=by
 have h1:=ai.made ((w.alloc b1).alloc b2) #[.bool false,.slice none 0 0,.slice none 0 0] 29;have h2:=a_.made ((w.alloc b1).alloc b2) #[.bool false,.slice none 0 0,.slice none 0 0] 29;simp only [World.size_alloc] at h1 h2;exact ⟨h1,h2,(((af.refl w).alloc _).alloc _).alloc _⟩
theorem xD (v:Value) (r:Rw) (w:World) (hv:RatAt w v r) (hs:r.Short 274877906944):Calls Tryz.prog 118 #[v] w fun e w'=>(∃ v',e=.returned v'/\RatAt w' v' (aj (- al r)))/\af w w':=by
 have HPA:=ae (fun W (hk:af w W)=>bU v r W (hv.kept hk) hs);have hok:=aG hv.ok;have hsh:=aI hs (by omega);obtain ⟨R,hR⟩:∃ R,R=aj (- al r):=⟨_,rfl⟩
 have HFO:Hid (∀ W u1 u2,ah W u1 (ag r).2.1->ah W u2 (ag r).2.2->Calls Tryz.prog 141 #[.bool (!(ag r).1),u1,u2] W fun e w'=>(∃ v,e=.returned v/\RatAt w' v R)/\af W w'):=ae fun W u1 u2 k1 k2=>by
  have h:=dZ (!(ag r).1) u1 u2 _ _ W k1 k2 hsh.1 hsh.2 hok.2.2.1;rw [ci _ _ _ hok.2.2.1,jY,<-hR] at h;exact h
 rw [<-hR];obtain ⟨u1,u2,rfl,h1,h2⟩:=hv;obtain ⟨a1,c1,rfl⟩:=h1.shape;obtain ⟨a2,c2,rfl⟩:=h2.shape;obtain ⟨w2,hw2⟩:∃ w2,w2=(w.alloc (.cells #[.bool r.neg,.slice a1 r.num.length c1,.slice a2 r.den.length c2] 29)).alloc (.cells #[.bool false,.slice none 0 0,.slice none 0 0] 29):=⟨_,rfl⟩;have HM:=ae (jz w (.cells #[.bool r.neg,.slice a1 r.num.length c1,.slice a2 r.den.length c2] 29));rw [<-hw2] at HM;have HW2:=ae hw2;generalize (ag r).1=s at *;generalize (ag r).2.1=N at *;generalize (ag r).2.2=D at *;generalize r.num.length=n1 at *;generalize r.den.length=n2 at *;generalize r.neg=neg at *;clear hok hsh hR h1 h2 hs hw2;go_enter Tryz.func118,Tryz.ntmps118;go_wp2_with fail;rw [<-HW2.out];refine (HPA.out _ HM.out.2.2).mono ?_;rintro e w3 ⟨⟨u3,u4,rfl,hu3,hu4⟩,hk3⟩;have H3:=ae hu3;have H4:=ae hu4;have HR3:=ae (HM.out.1.kept hk3);have HF3:=ae (HM.out.2.1.kept hk3);have HK3:=ae (HM.out.2.2.trans hk3);clear hu3 hu4 hk3;go_wp2_with fail;refine (HFO.out _ _ _ H3.out H4.out).mono ?_;rintro e w4 ⟨⟨v4,rfl,hv4⟩,hk4⟩;have HV4:=ae hv4;have hr4:=HR3.out.kept hk4;have HR4:=ae hr4;have HF4:=ae (HF3.out.kept hk4);have HK4:=ae (HK3.out.trans hk4);obtain ⟨u5,u6,rfl,k5,k6⟩:=hv4;obtain ⟨a5,c5,rfl⟩:=k5.shape;obtain ⟨a6,c6,rfl⟩:=k6.shape;obtain ⟨y0,y1,y2,hra⟩:=az hr4 HF4.out k5 k6;have g0:=hr4.cell (i:=0) (by simp)
 have g1:=hr4.cell (i:=1) (by simp);have g2:=hr4.cell (i:=2) (by simp);have f0:=hr4.free 0;have f1:=hr4.free 1;have f2:=hr4.free 2;have HRA:=ae hra;have Y0:=ae y0;have Y1:=ae y1;have Y2:=ae y2;clear hra y0 y1 y2 k5 k6 hr4 hk4;generalize R.num.length=n5 at *;generalize R.den.length=n6 at *;go_wp2;refine bodyPost_ret (v:=.agg #[.bool R.neg,.slice a5 n5 c5,.slice a6 n6 c6]) ?_ rfl ⟨⟨_,rfl,HRA.out⟩,?_⟩
 ·simp [results,Tryz.results118,go_sem,Y0.out,Y1.out,Y2.out]
 ·exact ((HK4.out.store (by omega) _ _).store (by omega) _ _).store (by omega) _ _
def eF (q:Rat):Int:=if q=0 then 0 else if q<0 then -1 else 1
theorem uU (v:Value) (r:Rw) (w:World) (hv:RatAt w v r) (hs:r.Short 274877906944):Calls Tryz.prog 22 #[v] w fun e w'=>e=.returned (.int .i64 (eF (al r)))/\af w w':=by
 have HPA:=ae (fun W (hk:af w W)=>bU v r W (hv.kept hk) hs);obtain ⟨k1,k2⟩:=mf hv.ok;obtain ⟨u1,u2,rfl,h1,h2⟩:=hv;obtain ⟨a1,c1,rfl⟩:=h1.shape;obtain ⟨a2,c2,rfl⟩:=h2.shape;have HK0:Hid (af w (w.alloc (.cells #[.bool r.neg,.slice a1 r.num.length c1,.slice a2 r.den.length c2] 29))):=ae ((af.refl w).alloc _);obtain ⟨ln,hln⟩:∃ ln,ln=(ag r).2.1.length:=⟨_,rfl⟩;have HLN:=ae hln;rw [<-hln] at k1 k2;obtain ⟨S,hS⟩:∃ S,S=eF (al r):=⟨_,rfl⟩;rw [<-hS]
 have hSS:S=if ln=0 then 0 else if (ag r).1=true then -1 else 1:=by
  rw [hS];unfold eF;by_cases h:ln=0
  ·rw [if_pos h,if_pos (k1.1 h)]
  ·rw [if_neg h,if_neg (fun e=>h (k1.2 e))];by_cases h3:(ag r).1=true
   ·rw [if_pos h3,if_pos ((k2 h).1 h3)]
   ·rw [if_neg h3,if_neg (fun e=>h3 ((k2 h).2 e))]
 generalize (ag r).1=s at *;generalize (ag r).2.1=N at *;generalize (ag r).2.2=D at *;generalize r.num.length=n1 at *;generalize r.den.length=n2 at *;generalize r.neg=neg at *;clear h1 h2 hs hS k1 k2 hln;by_cases h0:ln=0
 ·have hE:S=0:=by rw [hSS,if_pos h0]
  subst h0 hE;clear hSS;go_enter Tryz.func22,Tryz.ntmps22;go_wp2_with fail;refine (HPA.out _ HK0.out).mono ?_;rintro e w3 ⟨⟨u3,u4,rfl,hu3,hu4⟩,hk3⟩;obtain ⟨a3,c3,rfl⟩:=hu3.shape;rw [<-HLN.out];have HK3:=ae (HK0.out.trans hk3);clear hu3 hu4 hk3;go_wp2;go_ret;exact ⟨rfl,HK3.out⟩
 ·have hb:((ln:Int) == 0)=false:=by simp;exact h0
  cases s with
  | true =>
   have hE:S=-1:=by rw [hSS,if_neg h0,if_pos rfl]
   subst hE;clear hSS h0;go_enter Tryz.func22,Tryz.ntmps22;go_wp2_with fail;refine (HPA.out _ HK0.out).mono ?_;rintro e w3 ⟨⟨u3,u4,rfl,hu3,hu4⟩,hk3⟩;obtain ⟨a3,c3,rfl⟩:=hu3.shape;rw [<-HLN.out];have HK3:=ae (HK0.out.trans hk3);clear hu3 hu4 hk3;go_wp2;go_ret;exact ⟨rfl,HK3.out⟩
  | false =>
   have hE:S=1:=by rw [hSS,if_neg h0,if_neg (by simp)]
   subst hE;clear hSS h0;go_enter Tryz.func22,Tryz.ntmps22;go_wp2_with fail;refine (HPA.out _ HK0.out).mono ?_;rintro e w3 ⟨⟨u3,u4,rfl,hu3,hu4⟩,hk3⟩;obtain ⟨a3,c3,rfl⟩:=hu3.shape;rw [<-HLN.out];have HK3:=ae (HK0.out.trans hk3);clear hu3 hu4 hk3;go_wp2;go_ret;exact ⟨rfl,HK3.out⟩
theorem aF {xs ys:List Nat} (hx:Wd xs) (hy:Wd ys):(nw (nv xs*nv ys)).length<=xs.length+ys.length:=by
 refine aL.2 ?_;rw [Nat.pow_add];exact Nat.mul_lt_mul'' (dl hx) (dl hy)
theorem lX (va vb:Value) (r s:Rw) (w:World) (ha:RatAt w va r) (hb:RatAt w vb s) (hr:r.Short 137438953472) (hs:s.Short 137438953472):Calls Tryz.prog 97 #[va,vb] w fun e w'=>(∃ v',e=.returned v'/\RatAt w' v' (aj (al r*al s)))/\af w w':=by
 have HP1:=ae (fun W (hk:af w W)=>bU va r W (ha.kept hk) ⟨Nat.le_trans hr.1 (by omega),Nat.le_trans hr.2 (by omega)⟩);have HP2:=ae (fun W (hk:af w W)=>bU vb s W (hb.kept hk) ⟨Nat.le_trans hs.1 (by omega),Nat.le_trans hs.2 (by omega)⟩);have hok1:=aG ha.ok;have hok2:=aG hb.ok;have hsh1:=aI hr (by omega);have hsh2:=aI hs (by omega);obtain ⟨R,hR⟩:∃ R,R=aj (al r*al s):=⟨_,rfl⟩;obtain ⟨x,hx⟩:∃ x,x=((ag r).1 != (ag s).1):=⟨_,rfl⟩
 have HFO:Hid (∀ W u1 u2,ah W u1 (nw (nv (ag r).2.1*nv (ag s).2.1))->ah W u2 (nw (nv (ag r).2.2*nv (ag s).2.2))->Calls Tryz.prog 141 #[.bool x,u1,u2] W fun e w'=>(∃ v,e=.returned v/\RatAt w' v R)/\af W w'):=ae fun W u1 u2 k1 k2=>by
  have hd:nv (ag r).2.2*nv (ag s).2.2≠0:=Nat.mul_ne_zero hok1.2.2.1 hok2.2.2.1;have h:=dZ x u1 u2 _ _ W k1 k2 (Nat.le_trans (aF hok1.1 hok2.1) (by omega)) (Nat.le_trans (aF hok1.2.1 hok2.2.1) (by omega)) (by rw [am];exact hd);rw [am,am,ci _ _ _ hd,hx,jX,<-hR] at h;rw [hx];exact h
 have HM1:Hid (∀ W u1 u2,ah W u1 (ag r).2.1->ah W u2 (ag s).2.1->Calls Tryz.prog 156 #[u1,u2] W fun e w'=>(∃ v',e=.returned v'/\ah w' v' (nw (nv (ag r).2.1*nv (ag s).2.1)))/\af W w'):=ae fun W u1 u2 k1 k2=>cZ u1 u2 _ _ W k1 k2 (by omega) (by omega)
 have HM2:Hid (∀ W u1 u2,ah W u1 (ag r).2.2->ah W u2 (ag s).2.2->Calls Tryz.prog 156 #[u1,u2] W fun e w'=>(∃ v',e=.returned v'/\ah w' v' (nw (nv (ag r).2.2*nv (ag s).2.2)))/\af W w'):=ae fun W u1 u2 k1 k2=>cZ u1 u2 _ _ W k1 k2 (by omega) (by omega)
 rw [<-hR];obtain ⟨u1,u2,rfl,h1,h2⟩:=ha;obtain ⟨u3,u4,rfl,h3,h4⟩:=hb;obtain ⟨a1,c1,rfl⟩:=h1.shape;obtain ⟨a2,c2,rfl⟩:=h2.shape;obtain ⟨a3,c3,rfl⟩:=h3.shape;obtain ⟨a4,c4,rfl⟩:=h4.shape;obtain ⟨w2,hw2⟩:∃ w2,w2=((w.alloc (.cells #[.bool r.neg,.slice a1 r.num.length c1,.slice a2 r.den.length c2] 29)).alloc (.cells #[.bool s.neg,.slice a3 s.num.length c3,.slice a4 s.den.length c4] 29)).alloc (.cells #[.bool false,.slice none 0 0,.slice none 0 0] 29):=⟨_,rfl⟩;have HM:=ae (cM w (.cells #[.bool r.neg,.slice a1 r.num.length c1,.slice a2 r.den.length c2] 29) (.cells #[.bool s.neg,.slice a3 s.num.length c3,.slice a4 s.den.length c4] 29));rw [<-hw2] at HM;have hb2:=ai.made (w.alloc (.cells #[.bool r.neg,.slice a1 r.num.length c1,.slice a2 r.den.length c2] 29)) #[.bool s.neg,.slice a3 s.num.length c3,.slice a4 s.den.length c4] 29;simp only [World.size_alloc] at hb2;have HB2:Hid (ai w2 (w.heap.size+1) 29 [.bool s.neg,.slice a3 s.num.length c3,.slice a4 s.den.length c4]):=ae (by rw [hw2];exact hb2.kept ((af.refl _).alloc _));have HW2:=ae hw2;generalize nw (nv (ag r).2.1*nv (ag s).2.1)=NM at *;generalize nw (nv (ag r).2.2*nv (ag s).2.2)=DE at *;generalize (ag r).1=s1 at *;generalize (ag s).1=s2 at *;generalize (ag r).2.1=N at *;generalize (ag r).2.2=D at *;generalize (ag s).2.1=M at *;generalize (ag s).2.2=E at *;generalize r.num.length=n1 at *
 generalize r.den.length=n2 at *;generalize s.num.length=n3 at *;generalize s.den.length=n4 at *;generalize r.neg=neg1 at *;generalize s.neg=neg2 at *;have hx1:(s1 != s2)=x:=hx.symm;have hx2:(s1 == s2)=!x:=by rw [hx];simp [bne]
 clear hok1 hok2 hsh1 hsh2 hR h1 h2 h3 h4 hr hs hw2 hb2 hx;go_enter Tryz.func97,Tryz.ntmps97;go_wp2_with fail;rw [<-HW2.out];refine (HP1.out _ HM.out.2.2).mono ?_;rintro e w3 ⟨⟨u3,u4,rfl,hu3,hu4⟩,hk3⟩;have HN:=ae hu3;have HD:=ae hu4;have HR3:=ae (HM.out.1.kept hk3);have HF3:=ae (HM.out.2.1.kept hk3);have hb3:=HB2.out.kept hk3;have g0:=hb3.cell (i:=0) (by simp);have g1:=hb3.cell (i:=1) (by simp);have g2:=hb3.cell (i:=2) (by simp);simp only [List.getElem_cons_succ,List.getElem_cons_zero] at g0 g1 g2;have HK3:=ae (HM.out.2.2.trans hk3);clear hu3 hu4 hk3 hb3;go_wp2_with fail;refine (HP2.out _ HK3.out).mono ?_;rintro e w4 ⟨⟨u5,u6,rfl,hu5,hu6⟩,hk4⟩;have HN':=ae (HN.out.kept hk4);have HD':=ae (HD.out.kept hk4);have HMM:=ae hu5;have HEE:=ae hu6;have HR4:=ae (HR3.out.kept hk4);have HF4:=ae (HF3.out.kept hk4);have HK4:=ae (HK3.out.trans hk4);clear hu5 hu6 hk4 g0 g1 g2;go_wp2_with fail;refine (HM1.out _ _ _ HN'.out HMM.out).mono ?_;rintro e w5 ⟨⟨v5,rfl,hv5⟩,hk5⟩;have HV5:=ae hv5;have HR5:=ae (HR4.out.kept hk5);have HF5:=ae (HF4.out.kept hk5);have HD5:=ae (HD'.out.kept hk5);have HE5:=ae (HEE.out.kept hk5);have HK5:=ae (HK4.out.trans hk5);clear hv5 hk5;go_wp2_with fail;refine (HM2.out _ _ _ HD5.out HE5.out).mono ?_;rintro e w6 ⟨⟨v6,rfl,hv6⟩,hk6⟩;have HV6:=ae hv6;have HV5':=ae (HV5.out.kept hk6)
 have HR6:=ae (HR5.out.kept hk6);have HF6:=ae (HF5.out.kept hk6);have HK6:=ae (HK5.out.trans hk6);clear hv6 hk6;go_wp2_with fail
 first
  | (refine (HFO.out _ _ _ HV5'.out HV6.out).mono ?_)
  | (rw [hx1];refine (HFO.out _ _ _ HV5'.out HV6.out).mono ?_)
 rintro e w7 ⟨⟨v7,rfl,hv7⟩,hk7⟩;have HV7:=ae hv7;have hr7:=HR6.out.kept hk7;have HF7:=ae (HF6.out.kept hk7);have HK7:=ae (HK6.out.trans hk7);obtain ⟨u7,u8,rfl,k7,k8⟩:=hv7;obtain ⟨a7,c7,rfl⟩:=k7.shape;obtain ⟨a8,c8,rfl⟩:=k8.shape;obtain ⟨y0,y1,y2,hra⟩:=az hr7 HF7.out k7 k8;have g0:=hr7.cell (i:=0) (by simp);have g1:=hr7.cell (i:=1) (by simp);have g2:=hr7.cell (i:=2) (by simp);have f0:=hr7.free 0;have f1:=hr7.free 1;have f2:=hr7.free 2;have HRA:=ae hra;have Y0:=ae y0;have Y1:=ae y1;have Y2:=ae y2;clear hra y0 y1 y2 k7 k8 hr7 hk7;generalize R.num.length=n7 at *;generalize R.den.length=n8 at *;go_wp2;refine bodyPost_ret (v:=.agg #[.bool R.neg,.slice a7 n7 c7,.slice a8 n8 c8]) ?_ rfl ⟨⟨_,rfl,HRA.out⟩,?_⟩
 ·simp [results,Tryz.results97,go_sem,Y0.out,Y1.out,Y2.out]
 ·exact ((HK7.out.store (by omega) _ _).store (by omega) _ _).store (by omega) _ _
theorem iO {p q k:Nat} (hp:(nw p).length<=k) (hq:(nw q).length<=k):(nw (p+q)).length<=k+1:=by
 have hp:=aL.1 hp;have hq:=aL.1 hq;refine aL.2 ?_;rw [Nat.pow_succ];omega
theorem bT {p q:Nat} (h:p<=q):(nw p).length<=(nw q).length:=aL.2 (Nat.lt_of_le_of_lt h (aL.1 (Nat.le_refl _)))
theorem uJ (va vb:Value) (r s:Rw) (w:World) (ha:RatAt w va r) (hb:RatAt w vb s) (hr:r.Short 68719476736) (hs:s.Short 68719476736) (hss:(ag r).1=(ag s).1):Calls Tryz.prog 117 #[va,vb] w fun e w'=>(∃ v',e=.returned v'/\RatAt w' v' (aj (al r+al s)))/\af w w':=by
 have HP1:=ae (fun W (hk:af w W)=>bU va r W (ha.kept hk) ⟨Nat.le_trans hr.1 (by omega),Nat.le_trans hr.2 (by omega)⟩);have HP2:=ae (fun W (hk:af w W)=>bU vb s W (hb.kept hk) ⟨Nat.le_trans hs.1 (by omega),Nat.le_trans hs.2 (by omega)⟩);have hok1:=aG ha.ok;have hok2:=aG hb.ok;have hsh1:=aI hr (by omega);have hsh2:=aI hs (by omega);obtain ⟨R,hR⟩:∃ R,R=aj (al r+al s):=⟨_,rfl⟩;obtain ⟨p,hp⟩:∃ p,p=nv (ag r).2.1*nv (ag s).2.2:=⟨_,rfl⟩;obtain ⟨q,hq⟩:∃ q,q=nv (ag s).2.1*nv (ag r).2.2:=⟨_,rfl⟩;obtain ⟨d,hd⟩:∃ d,d=nv (ag r).2.2*nv (ag s).2.2:=⟨_,rfl⟩;have hlp:(nw p).length<=137438953472:=by rw [hp];exact Nat.le_trans (aF hok1.1 hok2.2.1) (by omega)
 have hlq:(nw q).length<=137438953472:=by rw [hq];exact Nat.le_trans (aF hok2.1 hok1.2.1) (by omega)
 have hld:(nw d).length<=137438953472:=by rw [hd];exact Nat.le_trans (aF hok1.2.1 hok2.2.1) (by omega)
 have hd0:d≠0:=by rw [hd];exact Nat.mul_ne_zero hok1.2.2.1 hok2.2.2.1
 have HAD:Hid (∀ W u1 u2,ah W u1 (nw p)->ah W u2 (nw q)->Calls Tryz.prog 178 #[u1,u2] W fun e w'=>(∃ v',e=.returned v'/\ah w' v' (nw (p+q)))/\af W w'):=ae fun W u1 u2 k1 k2=>by
  have h:=wT u1 u2 _ _ W k1 k2 (by omega) (by omega);rw [am,am] at h;exact h
 have HFO:Hid (∀ W u1 u2,ah W u1 (nw (p+q))->ah W u2 (nw d)->Calls Tryz.prog 141 #[.bool (ag r).1,u1,u2] W fun e w'=>(∃ v,e=.returned v/\RatAt w' v R)/\af W w'):=ae fun W u1 u2 k1 k2=>by
  have h:=dZ (ag r).1 u1 u2 _ _ W k1 k2 (Nat.le_trans (iO hlp hlq) (by omega)) (Nat.le_trans hld (by omega)) (by rw [am];exact hd0);rw [am,am,ci _ _ _ hd0,hp,hq,hd,jW ha.ok hb.ok hss,<-hR] at h;exact h
 have HM1:Hid (∀ W u1 u2,ah W u1 (ag r).2.1->ah W u2 (ag s).2.2->Calls Tryz.prog 156 #[u1,u2] W fun e w'=>(∃ v',e=.returned v'/\ah w' v' (nw p))/\af W w'):=ae fun W u1 u2 k1 k2=>by rw [hp];exact cZ u1 u2 _ _ W k1 k2 (by omega) (by omega)
 have HM2:Hid (∀ W u1 u2,ah W u1 (ag s).2.1->ah W u2 (ag r).2.2->Calls Tryz.prog 156 #[u1,u2] W fun e w'=>(∃ v',e=.returned v'/\ah w' v' (nw q))/\af W w'):=ae fun W u1 u2 k1 k2=>by rw [hq];exact cZ u1 u2 _ _ W k1 k2 (by omega) (by omega)
 have HM3:Hid (∀ W u1 u2,ah W u1 (ag r).2.2->ah W u2 (ag s).2.2->Calls Tryz.prog 156 #[u1,u2] W fun e w'=>(∃ v',e=.returned v'/\ah w' v' (nw d))/\af W w'):=ae fun W u1 u2 k1 k2=>by rw [hd];exact cZ u1 u2 _ _ W k1 k2 (by omega) (by omega)
 rw [<-hR];obtain ⟨u1,u2,rfl,h1,h2⟩:=ha;obtain ⟨u3,u4,rfl,h3,h4⟩:=hb;obtain ⟨a1,c1,rfl⟩:=h1.shape;obtain ⟨a2,c2,rfl⟩:=h2.shape;obtain ⟨a3,c3,rfl⟩:=h3.shape;obtain ⟨a4,c4,rfl⟩:=h4.shape;obtain ⟨w2,hw2⟩:∃ w2,w2=((w.alloc (.cells #[.bool r.neg,.slice a1 r.num.length c1,.slice a2 r.den.length c2] 29)).alloc (.cells #[.bool s.neg,.slice a3 s.num.length c3,.slice a4 s.den.length c4] 29)).alloc (.cells #[.bool false,.slice none 0 0,.slice none 0 0] 29):=⟨_,rfl⟩;have HM:=ae (cM w (.cells #[.bool r.neg,.slice a1 r.num.length c1,.slice a2 r.den.length c2] 29) (.cells #[.bool s.neg,.slice a3 s.num.length c3,.slice a4 s.den.length c4] 29));rw [<-hw2] at HM;have hb2:=ai.made (w.alloc (.cells #[.bool r.neg,.slice a1 r.num.length c1,.slice a2 r.den.length c2] 29)) #[.bool s.neg,.slice a3 s.num.length c3,.slice a4 s.den.length c4] 29;simp only [World.size_alloc] at hb2;have HB2:Hid (ai w2 (w.heap.size+1) 29 [.bool s.neg,.slice a3 s.num.length c3,.slice a4 s.den.length c4]):=ae (by rw [hw2];exact hb2.kept ((af.refl _).alloc _));have HW2:=ae hw2;generalize nw d=DE at *;generalize (ag r).1=s1 at *;generalize (ag s).1=s2 at *;generalize (ag r).2.1=N at *;generalize (ag r).2.2=D at *;generalize (ag s).2.1=M at *;generalize (ag s).2.2=E at *;generalize r.num.length=n1 at *;generalize r.den.length=n2 at *;generalize s.num.length=n3 at *;generalize s.den.length=n4 at *
 generalize r.neg=neg1 at *;generalize s.neg=neg2 at *;clear hok1 hok2 hsh1 hsh2 hR h1 h2 h3 h4 hr hs hw2 hb2 hp hq hd hlp hlq hld hd0;have hb:(s1 == s2)=true:=by simpa using hss
 clear hss;go_enter Tryz.func117,Tryz.ntmps117;go_wp2_with fail;rw [<-HW2.out];refine (HP1.out _ HM.out.2.2).mono ?_;rintro e w3 ⟨⟨u3,u4,rfl,hu3,hu4⟩,hk3⟩;have HN:=ae hu3;have HD:=ae hu4;have HR3:=ae (HM.out.1.kept hk3);have HF3:=ae (HM.out.2.1.kept hk3);have hb3:=HB2.out.kept hk3;have g0:=hb3.cell (i:=0) (by simp);have g1:=hb3.cell (i:=1) (by simp);have g2:=hb3.cell (i:=2) (by simp);simp only [List.getElem_cons_succ,List.getElem_cons_zero] at g0 g1 g2;have HK3:=ae (HM.out.2.2.trans hk3);clear hu3 hu4 hk3 hb3;go_wp2_with fail;refine (HP2.out _ HK3.out).mono ?_;rintro e w4 ⟨⟨u5,u6,rfl,hu5,hu6⟩,hk4⟩;have HN':=ae (HN.out.kept hk4);have HD':=ae (HD.out.kept hk4);have HMM:=ae hu5;have HEE:=ae hu6;have HR4:=ae (HR3.out.kept hk4);have HF4:=ae (HF3.out.kept hk4);have HK4:=ae (HK3.out.trans hk4);clear hu5 hu6 hk4 g0 g1 g2;go_wp2_with fail;refine (HM1.out _ _ _ HN'.out HEE.out).mono ?_;rintro e w5 ⟨⟨v5,rfl,hv5⟩,hk5⟩;have HV5:=ae hv5;have HR5:=ae (HR4.out.kept hk5);have HF5:=ae (HF4.out.kept hk5);have HD5:=ae (HD'.out.kept hk5);have HE5:=ae (HEE.out.kept hk5);have HM5:=ae (HMM.out.kept hk5);have HK5:=ae (HK4.out.trans hk5);clear hv5 hk5;go_wp2_with fail;refine (HM2.out _ _ _ HM5.out HD5.out).mono ?_;rintro e w6 ⟨⟨v6,rfl,hv6⟩,hk6⟩;have HV6:=ae hv6;have HV5':=ae (HV5.out.kept hk6)
 have HR6:=ae (HR5.out.kept hk6);have HF6:=ae (HF5.out.kept hk6);have HD6:=ae (HD5.out.kept hk6);have HE6:=ae (HE5.out.kept hk6);have HK6:=ae (HK5.out.trans hk6);clear hv6 hk6;go_wp2_with fail;refine (HM3.out _ _ _ HD6.out HE6.out).mono ?_;rintro e w7 ⟨⟨v7,rfl,hv7⟩,hk7⟩;have HVD:=ae hv7;have HVP:=ae (HV5'.out.kept hk7);have HVQ:=ae (HV6.out.kept hk7);have HR7:=ae (HR6.out.kept hk7);have HF7:=ae (HF6.out.kept hk7);have HK7:=ae (HK6.out.trans hk7);clear hv7 hk7;go_wp2_with fail;refine (HAD.out _ _ _ HVP.out HVQ.out).mono ?_;rintro e w9 ⟨⟨v9,rfl,hv9⟩,hk9⟩;have HVD8:=HVD;have HR8:=HR7;have HF8:=HF7;have HK8:=HK7;have HV9:=ae hv9;have HVD9:=ae (HVD8.out.kept hk9);have HR9:=ae (HR8.out.kept hk9);have HF9:=ae (HF8.out.kept hk9);have HK9:=ae (HK8.out.trans hk9);clear hv9 hk9;go_wp2_with fail;refine (HFO.out _ _ _ HV9.out HVD9.out).mono ?_;rintro e w10 ⟨⟨v10,rfl,hv10⟩,hk10⟩;have hr10:=HR9.out.kept hk10;have HF10:=ae (HF9.out.kept hk10);have HK10:=ae (HK9.out.trans hk10);obtain ⟨u7,u8,rfl,k7,k8⟩:=hv10;obtain ⟨a7,c7,rfl⟩:=k7.shape;obtain ⟨a8,c8,rfl⟩:=k8.shape;obtain ⟨y0,y1,y2,hra⟩:=az hr10 HF10.out k7 k8;have g0:=hr10.cell (i:=0) (by simp);have g1:=hr10.cell (i:=1) (by simp);have g2:=hr10.cell (i:=2) (by simp);have f0:=hr10.free 0;have f1:=hr10.free 1;have f2:=hr10.free 2
 have HRA:=ae hra;have Y0:=ae y0;have Y1:=ae y1;have Y2:=ae y2;clear hra y0 y1 y2 k7 k8 hr10 hk10;generalize R.num.length=n7 at *;generalize R.den.length=n8 at *;go_wp2;refine bodyPost_ret (v:=.agg #[.bool R.neg,.slice a7 n7 c7,.slice a8 n8 c8]) ?_ rfl ⟨⟨_,rfl,HRA.out⟩,?_⟩
 ·simp [results,Tryz.results117,go_sem,Y0.out,Y1.out,Y2.out]
 ·exact ((HK10.out.store (by omega) _ _).store (by omega) _ _).store (by omega) _ _
theorem yU (va vb:Value) (r s:Rw) (w:World) (ha:RatAt w va r) (hb:RatAt w vb s) (hr:r.Short 68719476736) (hs:s.Short 68719476736) (hss:(ag r).1≠(ag s).1) (hle:nv (ag s).2.1*nv (ag r).2.2<=nv (ag r).2.1*nv (ag s).2.2):Calls Tryz.prog 117 #[va,vb] w fun e w'=>(∃ v',e=.returned v'/\RatAt w' v' (aj (al r+al s)))/\af w w':=by
 have HP1:=ae (fun W (hk:af w W)=>bU va r W (ha.kept hk) ⟨Nat.le_trans hr.1 (by omega),Nat.le_trans hr.2 (by omega)⟩);have HP2:=ae (fun W (hk:af w W)=>bU vb s W (hb.kept hk) ⟨Nat.le_trans hs.1 (by omega),Nat.le_trans hs.2 (by omega)⟩);have hok1:=aG ha.ok;have hok2:=aG hb.ok;have hsh1:=aI hr (by omega);have hsh2:=aI hs (by omega);obtain ⟨R,hR⟩:∃ R,R=aj (al r+al s):=⟨_,rfl⟩;obtain ⟨p,hp⟩:∃ p,p=nv (ag r).2.1*nv (ag s).2.2:=⟨_,rfl⟩;obtain ⟨q,hq⟩:∃ q,q=nv (ag s).2.1*nv (ag r).2.2:=⟨_,rfl⟩;obtain ⟨d,hd⟩:∃ d,d=nv (ag r).2.2*nv (ag s).2.2:=⟨_,rfl⟩;have hlp:(nw p).length<=137438953472:=by rw [hp];exact Nat.le_trans (aF hok1.1 hok2.2.1) (by omega)
 have hlq:(nw q).length<=137438953472:=by rw [hq];exact Nat.le_trans (aF hok2.1 hok1.2.1) (by omega)
 have hld:(nw d).length<=137438953472:=by rw [hd];exact Nat.le_trans (aF hok1.2.1 hok2.2.1) (by omega)
 have hd0:d≠0:=by rw [hd];exact Nat.mul_ne_zero hok1.2.2.1 hok2.2.2.1
 rw [<-hp,<-hq] at hle
 have HCM:Hid (∀ W u1 u2,ah W u1 (nw p)->ah W u2 (nw q)->Calls Tryz.prog 69 #[u1,u2] W fun e w'=>e=.returned (.int .i64 (cU p q))/\af W w'):=ae fun W u1 u2 k1 k2=>by
  have h:=dM u1 u2 _ _ W k1 k2;rw [am,am] at h;exact h
 have HSU:Hid (∀ W u1 u2,ah W u1 (nw p)->ah W u2 (nw q)->Calls Tryz.prog 179 #[u1,u2] W fun e w'=>(∃ v',e=.returned (.tuple #[v',.nilIface])/\ah w' v' (nw (p - q)))/\af W w'):=ae fun W u1 u2 k1 k2=>by
  have h:=pS u1 u2 _ _ W k1 k2 (by rw [am,am];exact hle);rw [am,am] at h;exact h
 obtain ⟨cm,hcm⟩:∃ cm,cm=cU p q:=⟨_,rfl⟩;rw [<-hcm] at HCM
 have hcm0:¬ cm<0:=by
  rw [hcm];rcases Nat.lt_or_ge q p with h | h
  ·rw [eJ h];omega
  ·rw [fe (by omega)];omega
 have HFO:Hid (∀ W u1 u2,ah W u1 (nw (p - q))->ah W u2 (nw d)->Calls Tryz.prog 141 #[.bool (ag r).1,u1,u2] W fun e w'=>(∃ v,e=.returned v/\RatAt w' v R)/\af W w'):=ae fun W u1 u2 k1 k2=>by
  have h:=dZ (ag r).1 u1 u2 _ _ W k1 k2 (Nat.le_trans (bT (Nat.sub_le p q)) (by omega)) (Nat.le_trans hld (by omega)) (by rw [am];exact hd0);rw [am,am,ci _ _ _ hd0,hp,hq,hd,j_ ha.ok hb.ok hss (by rw [hp,hq] at hle;exact hle),<-hR] at h;exact h
 have HM1:Hid (∀ W u1 u2,ah W u1 (ag r).2.1->ah W u2 (ag s).2.2->Calls Tryz.prog 156 #[u1,u2] W fun e w'=>(∃ v',e=.returned v'/\ah w' v' (nw p))/\af W w'):=ae fun W u1 u2 k1 k2=>by rw [hp];exact cZ u1 u2 _ _ W k1 k2 (by omega) (by omega)
 have HM2:Hid (∀ W u1 u2,ah W u1 (ag s).2.1->ah W u2 (ag r).2.2->Calls Tryz.prog 156 #[u1,u2] W fun e w'=>(∃ v',e=.returned v'/\ah w' v' (nw q))/\af W w'):=ae fun W u1 u2 k1 k2=>by rw [hq];exact cZ u1 u2 _ _ W k1 k2 (by omega) (by omega)
 have HM3:Hid (∀ W u1 u2,ah W u1 (ag r).2.2->ah W u2 (ag s).2.2->Calls Tryz.prog 156 #[u1,u2] W fun e w'=>(∃ v',e=.returned v'/\ah w' v' (nw d))/\af W w'):=ae fun W u1 u2 k1 k2=>by rw [hd];exact cZ u1 u2 _ _ W k1 k2 (by omega) (by omega)
 rw [<-hR];obtain ⟨u1,u2,rfl,h1,h2⟩:=ha;obtain ⟨u3,u4,rfl,h3,h4⟩:=hb;obtain ⟨a1,c1,rfl⟩:=h1.shape;obtain ⟨a2,c2,rfl⟩:=h2.shape;obtain ⟨a3,c3,rfl⟩:=h3.shape;obtain ⟨a4,c4,rfl⟩:=h4.shape;obtain ⟨w2,hw2⟩:∃ w2,w2=((w.alloc (.cells #[.bool r.neg,.slice a1 r.num.length c1,.slice a2 r.den.length c2] 29)).alloc (.cells #[.bool s.neg,.slice a3 s.num.length c3,.slice a4 s.den.length c4] 29)).alloc (.cells #[.bool false,.slice none 0 0,.slice none 0 0] 29):=⟨_,rfl⟩;have HM:=ae (cM w (.cells #[.bool r.neg,.slice a1 r.num.length c1,.slice a2 r.den.length c2] 29) (.cells #[.bool s.neg,.slice a3 s.num.length c3,.slice a4 s.den.length c4] 29));rw [<-hw2] at HM;have hb2:=ai.made (w.alloc (.cells #[.bool r.neg,.slice a1 r.num.length c1,.slice a2 r.den.length c2] 29)) #[.bool s.neg,.slice a3 s.num.length c3,.slice a4 s.den.length c4] 29;simp only [World.size_alloc] at hb2;have HB2:Hid (ai w2 (w.heap.size+1) 29 [.bool s.neg,.slice a3 s.num.length c3,.slice a4 s.den.length c4]):=ae (by rw [hw2];exact hb2.kept ((af.refl _).alloc _));have HW2:=ae hw2;generalize nw d=DE at *;generalize (ag r).1=s1 at *;generalize (ag s).1=s2 at *;generalize (ag r).2.1=N at *;generalize (ag r).2.2=D at *;generalize (ag s).2.1=M at *;generalize (ag s).2.2=E at *;generalize r.num.length=n1 at *;generalize r.den.length=n2 at *;generalize s.num.length=n3 at *;generalize s.den.length=n4 at *
 generalize r.neg=neg1 at *;generalize s.neg=neg2 at *;clear hok1 hok2 hsh1 hsh2 hR h1 h2 h3 h4 hr hs hw2 hb2 hp hq hd hlp hlq hld hd0;have hb:(s1 == s2)=false:=by simpa using hss
 clear hss hcm hle;go_enter Tryz.func117,Tryz.ntmps117;go_wp2_with fail;rw [<-HW2.out];refine (HP1.out _ HM.out.2.2).mono ?_;rintro e w3 ⟨⟨u3,u4,rfl,hu3,hu4⟩,hk3⟩;have HN:=ae hu3;have HD:=ae hu4;have HR3:=ae (HM.out.1.kept hk3);have HF3:=ae (HM.out.2.1.kept hk3);have hb3:=HB2.out.kept hk3;have g0:=hb3.cell (i:=0) (by simp);have g1:=hb3.cell (i:=1) (by simp);have g2:=hb3.cell (i:=2) (by simp);simp only [List.getElem_cons_succ,List.getElem_cons_zero] at g0 g1 g2;have HK3:=ae (HM.out.2.2.trans hk3);clear hu3 hu4 hk3 hb3;go_wp2_with fail;refine (HP2.out _ HK3.out).mono ?_;rintro e w4 ⟨⟨u5,u6,rfl,hu5,hu6⟩,hk4⟩;have HN':=ae (HN.out.kept hk4);have HD':=ae (HD.out.kept hk4);have HMM:=ae hu5;have HEE:=ae hu6;have HR4:=ae (HR3.out.kept hk4);have HF4:=ae (HF3.out.kept hk4);have HK4:=ae (HK3.out.trans hk4);clear hu5 hu6 hk4 g0 g1 g2;go_wp2_with fail;refine (HM1.out _ _ _ HN'.out HEE.out).mono ?_;rintro e w5 ⟨⟨v5,rfl,hv5⟩,hk5⟩;have HV5:=ae hv5;have HR5:=ae (HR4.out.kept hk5);have HF5:=ae (HF4.out.kept hk5);have HD5:=ae (HD'.out.kept hk5);have HE5:=ae (HEE.out.kept hk5);have HM5:=ae (HMM.out.kept hk5);have HK5:=ae (HK4.out.trans hk5);clear hv5 hk5;go_wp2_with fail;refine (HM2.out _ _ _ HM5.out HD5.out).mono ?_;rintro e w6 ⟨⟨v6,rfl,hv6⟩,hk6⟩;have HV6:=ae hv6;have HV5':=ae (HV5.out.kept hk6)
 have HR6:=ae (HR5.out.kept hk6);have HF6:=ae (HF5.out.kept hk6);have HD6:=ae (HD5.out.kept hk6);have HE6:=ae (HE5.out.kept hk6);have HK6:=ae (HK5.out.trans hk6);clear hv6 hk6;go_wp2_with fail;refine (HM3.out _ _ _ HD6.out HE6.out).mono ?_;rintro e w7 ⟨⟨v7,rfl,hv7⟩,hk7⟩;have HVD:=ae hv7;have HVP:=ae (HV5'.out.kept hk7);have HVQ:=ae (HV6.out.kept hk7);have HR7:=ae (HR6.out.kept hk7);have HF7:=ae (HF6.out.kept hk7);have HK7:=ae (HK6.out.trans hk7);clear hv7 hk7;go_wp2_with fail;refine (HCM.out _ _ _ HVP.out HVQ.out).mono ?_;rintro e w8 ⟨rfl,hk8⟩;have HVD8:=ae (HVD.out.kept hk8);have HVP8:=ae (HVP.out.kept hk8);have HVQ8:=ae (HVQ.out.kept hk8);have HR8:=ae (HR7.out.kept hk8);have HF8:=ae (HF7.out.kept hk8);have HK8:=ae (HK7.out.trans hk8);clear hk8;go_wp2_with fail;refine (HSU.out _ _ _ HVP8.out HVQ8.out).mono ?_;rintro e w9 ⟨⟨v9,rfl,hv9⟩,hk9⟩;have HV9:=ae hv9;have HVD9:=ae (HVD8.out.kept hk9);have HR9:=ae (HR8.out.kept hk9);have HF9:=ae (HF8.out.kept hk9);have HK9:=ae (HK8.out.trans hk9);clear hv9 hk9;go_wp2_with fail;refine (HFO.out _ _ _ HV9.out HVD9.out).mono ?_;rintro e w10 ⟨⟨v10,rfl,hv10⟩,hk10⟩;have hr10:=HR9.out.kept hk10;have HF10:=ae (HF9.out.kept hk10);have HK10:=ae (HK9.out.trans hk10);obtain ⟨u7,u8,rfl,k7,k8⟩:=hv10;obtain ⟨a7,c7,rfl⟩:=k7.shape
 obtain ⟨a8,c8,rfl⟩:=k8.shape;obtain ⟨y0,y1,y2,hra⟩:=az hr10 HF10.out k7 k8;have g0:=hr10.cell (i:=0) (by simp);have g1:=hr10.cell (i:=1) (by simp);have g2:=hr10.cell (i:=2) (by simp);have f0:=hr10.free 0;have f1:=hr10.free 1;have f2:=hr10.free 2;have HRA:=ae hra;have Y0:=ae y0;have Y1:=ae y1;have Y2:=ae y2;clear hra y0 y1 y2 k7 k8 hr10 hk10;generalize R.num.length=n7 at *;generalize R.den.length=n8 at *;go_wp2;refine bodyPost_ret (v:=.agg #[.bool R.neg,.slice a7 n7 c7,.slice a8 n8 c8]) ?_ rfl ⟨⟨_,rfl,HRA.out⟩,?_⟩
 ·simp [results,Tryz.results117,go_sem,Y0.out,Y1.out,Y2.out]
 ·exact ((HK10.out.store (by omega) _ _).store (by omega) _ _).store (by omega) _ _
theorem yV (va vb:Value) (r s:Rw) (w:World) (ha:RatAt w va r) (hb:RatAt w vb s) (hr:r.Short 68719476736) (hs:s.Short 68719476736) (hss:(ag r).1≠(ag s).1) (hle:nv (ag r).2.1*nv (ag s).2.2<nv (ag s).2.1*nv (ag r).2.2):Calls Tryz.prog 117 #[va,vb] w fun e w'=>(∃ v',e=.returned v'/\RatAt w' v' (aj (al r+al s)))/\af w w':=by
 have HP1:=ae (fun W (hk:af w W)=>bU va r W (ha.kept hk) ⟨Nat.le_trans hr.1 (by omega),Nat.le_trans hr.2 (by omega)⟩);have HP2:=ae (fun W (hk:af w W)=>bU vb s W (hb.kept hk) ⟨Nat.le_trans hs.1 (by omega),Nat.le_trans hs.2 (by omega)⟩);have hok1:=aG ha.ok;have hok2:=aG hb.ok;have hsh1:=aI hr (by omega);have hsh2:=aI hs (by omega);obtain ⟨R,hR⟩:∃ R,R=aj (al r+al s):=⟨_,rfl⟩;obtain ⟨p,hp⟩:∃ p,p=nv (ag r).2.1*nv (ag s).2.2:=⟨_,rfl⟩;obtain ⟨q,hq⟩:∃ q,q=nv (ag s).2.1*nv (ag r).2.2:=⟨_,rfl⟩;obtain ⟨d,hd⟩:∃ d,d=nv (ag r).2.2*nv (ag s).2.2:=⟨_,rfl⟩;have hlp:(nw p).length<=137438953472:=by rw [hp];exact Nat.le_trans (aF hok1.1 hok2.2.1) (by omega)
 have hlq:(nw q).length<=137438953472:=by rw [hq];exact Nat.le_trans (aF hok2.1 hok1.2.1) (by omega)
 have hld:(nw d).length<=137438953472:=by rw [hd];exact Nat.le_trans (aF hok1.2.1 hok2.2.1) (by omega)
 have hd0:d≠0:=by rw [hd];exact Nat.mul_ne_zero hok1.2.2.1 hok2.2.2.1
 rw [<-hp,<-hq] at hle
 have HCM:Hid (∀ W u1 u2,ah W u1 (nw p)->ah W u2 (nw q)->Calls Tryz.prog 69 #[u1,u2] W fun e w'=>e=.returned (.int .i64 (cU p q))/\af W w'):=ae fun W u1 u2 k1 k2=>by
  have h:=dM u1 u2 _ _ W k1 k2;rw [am,am] at h;exact h
 have HSU:Hid (∀ W u1 u2,ah W u1 (nw q)->ah W u2 (nw p)->Calls Tryz.prog 179 #[u1,u2] W fun e w'=>(∃ v',e=.returned (.tuple #[v',.nilIface])/\ah w' v' (nw (q - p)))/\af W w'):=ae fun W u1 u2 k1 k2=>by
  have h:=pS u1 u2 _ _ W k1 k2 (by rw [am,am];exact Nat.le_of_lt hle);rw [am,am] at h;exact h
 obtain ⟨cm,hcm⟩:∃ cm,cm=cU p q:=⟨_,rfl⟩;rw [<-hcm] at HCM
 have hcm0:cm<0:=by
  rw [hcm];rw [ff hle];omega
 have HFO:Hid (∀ W u1 u2,ah W u1 (nw (q - p))->ah W u2 (nw d)->Calls Tryz.prog 141 #[.bool (ag s).1,u1,u2] W fun e w'=>(∃ v,e=.returned v/\RatAt w' v R)/\af W w'):=ae fun W u1 u2 k1 k2=>by
  have h:=dZ (ag s).1 u1 u2 _ _ W k1 k2 (Nat.le_trans (bT (Nat.sub_le q p)) (by omega)) (Nat.le_trans hld (by omega)) (by rw [am];exact hd0);rw [am,am,ci _ _ _ hd0,hp,hq,hd,iQ ha.ok hb.ok hss (by rw [hp,hq] at hle;exact Nat.le_of_lt hle),<-hR] at h;exact h
 have HM1:Hid (∀ W u1 u2,ah W u1 (ag r).2.1->ah W u2 (ag s).2.2->Calls Tryz.prog 156 #[u1,u2] W fun e w'=>(∃ v',e=.returned v'/\ah w' v' (nw p))/\af W w'):=ae fun W u1 u2 k1 k2=>by rw [hp];exact cZ u1 u2 _ _ W k1 k2 (by omega) (by omega)
 have HM2:Hid (∀ W u1 u2,ah W u1 (ag s).2.1->ah W u2 (ag r).2.2->Calls Tryz.prog 156 #[u1,u2] W fun e w'=>(∃ v',e=.returned v'/\ah w' v' (nw q))/\af W w'):=ae fun W u1 u2 k1 k2=>by rw [hq];exact cZ u1 u2 _ _ W k1 k2 (by omega) (by omega)
 have HM3:Hid (∀ W u1 u2,ah W u1 (ag r).2.2->ah W u2 (ag s).2.2->Calls Tryz.prog 156 #[u1,u2] W fun e w'=>(∃ v',e=.returned v'/\ah w' v' (nw d))/\af W w'):=ae fun W u1 u2 k1 k2=>by rw [hd];exact cZ u1 u2 _ _ W k1 k2 (by omega) (by omega)
 rw [<-hR];obtain ⟨u1,u2,rfl,h1,h2⟩:=ha;obtain ⟨u3,u4,rfl,h3,h4⟩:=hb;obtain ⟨a1,c1,rfl⟩:=h1.shape;obtain ⟨a2,c2,rfl⟩:=h2.shape;obtain ⟨a3,c3,rfl⟩:=h3.shape;obtain ⟨a4,c4,rfl⟩:=h4.shape;obtain ⟨w2,hw2⟩:∃ w2,w2=((w.alloc (.cells #[.bool r.neg,.slice a1 r.num.length c1,.slice a2 r.den.length c2] 29)).alloc (.cells #[.bool s.neg,.slice a3 s.num.length c3,.slice a4 s.den.length c4] 29)).alloc (.cells #[.bool false,.slice none 0 0,.slice none 0 0] 29):=⟨_,rfl⟩;have HM:=ae (cM w (.cells #[.bool r.neg,.slice a1 r.num.length c1,.slice a2 r.den.length c2] 29) (.cells #[.bool s.neg,.slice a3 s.num.length c3,.slice a4 s.den.length c4] 29));rw [<-hw2] at HM;have hb2:=ai.made (w.alloc (.cells #[.bool r.neg,.slice a1 r.num.length c1,.slice a2 r.den.length c2] 29)) #[.bool s.neg,.slice a3 s.num.length c3,.slice a4 s.den.length c4] 29;simp only [World.size_alloc] at hb2;have HB2:Hid (ai w2 (w.heap.size+1) 29 [.bool s.neg,.slice a3 s.num.length c3,.slice a4 s.den.length c4]):=ae (by rw [hw2];exact hb2.kept ((af.refl _).alloc _));have HW2:=ae hw2;generalize nw d=DE at *;generalize (ag r).1=s1 at *;generalize (ag s).1=s2 at *;generalize (ag r).2.1=N at *;generalize (ag r).2.2=D at *;generalize (ag s).2.1=M at *;generalize (ag s).2.2=E at *;generalize r.num.length=n1 at *;generalize r.den.length=n2 at *;generalize s.num.length=n3 at *;generalize s.den.length=n4 at *
 generalize r.neg=neg1 at *;generalize s.neg=neg2 at *;clear hok1 hok2 hsh1 hsh2 hR h1 h2 h3 h4 hr hs hw2 hb2 hp hq hd hlp hlq hld hd0;have hb:(s1 == s2)=false:=by simpa using hss
 clear hss hcm hle;go_enter Tryz.func117,Tryz.ntmps117;go_wp2_with fail;rw [<-HW2.out];refine (HP1.out _ HM.out.2.2).mono ?_;rintro e w3 ⟨⟨u3,u4,rfl,hu3,hu4⟩,hk3⟩;have HN:=ae hu3;have HD:=ae hu4;have HR3:=ae (HM.out.1.kept hk3);have HF3:=ae (HM.out.2.1.kept hk3);have hb3:=HB2.out.kept hk3;have g0:=hb3.cell (i:=0) (by simp);have g1:=hb3.cell (i:=1) (by simp);have g2:=hb3.cell (i:=2) (by simp);simp only [List.getElem_cons_succ,List.getElem_cons_zero] at g0 g1 g2;have HK3:=ae (HM.out.2.2.trans hk3);clear hu3 hu4 hk3 hb3;go_wp2_with fail;refine (HP2.out _ HK3.out).mono ?_;rintro e w4 ⟨⟨u5,u6,rfl,hu5,hu6⟩,hk4⟩;have HN':=ae (HN.out.kept hk4);have HD':=ae (HD.out.kept hk4);have HMM:=ae hu5;have HEE:=ae hu6;have HR4:=ae (HR3.out.kept hk4);have HF4:=ae (HF3.out.kept hk4);have HK4:=ae (HK3.out.trans hk4);clear hu5 hu6 hk4 g0 g1 g2;go_wp2_with fail;refine (HM1.out _ _ _ HN'.out HEE.out).mono ?_;rintro e w5 ⟨⟨v5,rfl,hv5⟩,hk5⟩;have HV5:=ae hv5;have HR5:=ae (HR4.out.kept hk5);have HF5:=ae (HF4.out.kept hk5);have HD5:=ae (HD'.out.kept hk5);have HE5:=ae (HEE.out.kept hk5);have HM5:=ae (HMM.out.kept hk5);have HK5:=ae (HK4.out.trans hk5);clear hv5 hk5;go_wp2_with fail;refine (HM2.out _ _ _ HM5.out HD5.out).mono ?_;rintro e w6 ⟨⟨v6,rfl,hv6⟩,hk6⟩;have HV6:=ae hv6;have HV5':=ae (HV5.out.kept hk6)
 have HR6:=ae (HR5.out.kept hk6);have HF6:=ae (HF5.out.kept hk6);have HD6:=ae (HD5.out.kept hk6);have HE6:=ae (HE5.out.kept hk6);have HK6:=ae (HK5.out.trans hk6);clear hv6 hk6;go_wp2_with fail;refine (HM3.out _ _ _ HD6.out HE6.out).mono ?_;rintro e w7 ⟨⟨v7,rfl,hv7⟩,hk7⟩;have HVD:=ae hv7;have HVP:=ae (HV5'.out.kept hk7);have HVQ:=ae (HV6.out.kept hk7);have HR7:=ae (HR6.out.kept hk7);have HF7:=ae (HF6.out.kept hk7);have HK7:=ae (HK6.out.trans hk7);clear hv7 hk7;go_wp2_with fail;refine (HCM.out _ _ _ HVP.out HVQ.out).mono ?_;rintro e w8 ⟨rfl,hk8⟩;have HVD8:=ae (HVD.out.kept hk8);have HVP8:=ae (HVP.out.kept hk8);have HVQ8:=ae (HVQ.out.kept hk8);have HR8:=ae (HR7.out.kept hk8);have HF8:=ae (HF7.out.kept hk8);have HK8:=ae (HK7.out.trans hk8);clear hk8;go_wp2_with fail;refine (HSU.out _ _ _ HVQ8.out HVP8.out).mono ?_;rintro e w9 ⟨⟨v9,rfl,hv9⟩,hk9⟩;have HV9:=ae hv9;have HVD9:=ae (HVD8.out.kept hk9);have HR9:=ae (HR8.out.kept hk9);have HF9:=ae (HF8.out.kept hk9);have HK9:=ae (HK8.out.trans hk9);clear hv9 hk9;go_wp2_with fail;refine (HFO.out _ _ _ HV9.out HVD9.out).mono ?_;rintro e w10 ⟨⟨v10,rfl,hv10⟩,hk10⟩;have hr10:=HR9.out.kept hk10;have HF10:=ae (HF9.out.kept hk10);have HK10:=ae (HK9.out.trans hk10);obtain ⟨u7,u8,rfl,k7,k8⟩:=hv10;obtain ⟨a7,c7,rfl⟩:=k7.shape
 obtain ⟨a8,c8,rfl⟩:=k8.shape;obtain ⟨y0,y1,y2,hra⟩:=az hr10 HF10.out k7 k8;have g0:=hr10.cell (i:=0) (by simp);have g1:=hr10.cell (i:=1) (by simp);have g2:=hr10.cell (i:=2) (by simp);have f0:=hr10.free 0;have f1:=hr10.free 1;have f2:=hr10.free 2;have HRA:=ae hra;have Y0:=ae y0;have Y1:=ae y1;have Y2:=ae y2;clear hra y0 y1 y2 k7 k8 hr10 hk10;generalize R.num.length=n7 at *;generalize R.den.length=n8 at *;go_wp2;refine bodyPost_ret (v:=.agg #[.bool R.neg,.slice a7 n7 c7,.slice a8 n8 c8]) ?_ rfl ⟨⟨_,rfl,HRA.out⟩,?_⟩
 ·simp [results,Tryz.results117,go_sem,Y0.out,Y1.out,Y2.out]
 ·exact ((HK10.out.store (by omega) _ _).store (by omega) _ _).store (by omega) _ _
theorem qg (va vb:Value) (r s:Rw) (w:World) (ha:RatAt w va r) (hb:RatAt w vb s) (hr:r.Short 68719476736) (hs:s.Short 68719476736):Calls Tryz.prog 117 #[va,vb] w fun e w'=>(∃ v',e=.returned v'/\RatAt w' v' (aj (al r+al s)))/\af w w':=by
 by_cases h:(ag r).1=(ag s).1
 ·exact uJ va vb r s w ha hb hr hs h
 ·rcases Nat.lt_or_ge (nv (ag r).2.1*nv (ag s).2.2) (nv (ag s).2.1*nv (ag r).2.2) with h2 | h2
  ·exact yV va vb r s w ha hb hr hs h h2
  ·exact yU va vb r s w ha hb hr hs h h2
theorem dU (neg:Bool) {n d k l:Nat} (hd:d≠0) (hn:(nw n).length<=k) (hdk:(nw d).length<=l):(aj (mkRat (sg neg n) d)).num.length<=k/\(aj (mkRat (sg neg n) d)).den.length<=l:=by
 rw [<-ci _ _ _ hd];unfold fE;split
 ·exact ⟨Nat.zero_le _,Nat.zero_le _⟩
 ·exact ⟨Nat.le_trans (bT (Nat.div_le_self _ _)) hn,Nat.le_trans (bT (Nat.div_le_self _ _)) hdk⟩
theorem wG {xs:List Nat} (h:Wd xs) {k:Nat} (hk:xs.length<=k):(nw (nv xs)).length<=k:=Nat.le_trans (cD h) hk
theorem fK {r:Rw} (h:r.Ok) {k:Nat} (hs:r.Short k) (hk:1<=k):(aj (- al r)).Short k:=by
 have hok:=aG h;have hsh:=aI hs hk;rw [<-jY];exact dU _ hok.2.2.1 (wG hok.1 hsh.1) (wG hok.2.1 hsh.2)
theorem gT {r s:Rw} (hr:r.Ok) (hs:s.Ok) {k l:Nat} (h1:r.Short k) (h2:s.Short l) (hk:1<=k) (hl:1<=l):(aj (al r*al s)).Short (k+l):=by
 have ok1:=aG hr;have ok2:=aG hs;have s1:=aI h1 hk;have s2:=aI h2 hl;rw [<-jX];exact dU _ (Nat.mul_ne_zero ok1.2.2.1 ok2.2.2.1) (Nat.le_trans (aF ok1.1 ok2.1) (by omega)) (Nat.le_trans (aF ok1.2.1 ok2.2.1) (by omega))
theorem gS {r s:Rw} (hr:r.Ok) (hs:s.Ok) {k l:Nat} (h1:r.Short k) (h2:s.Short l) (hk:1<=k) (hl:1<=l):(aj (al r+al s)).Short (k+l+1):=by
 have ok1:=aG hr;have ok2:=aG hs;have s1:=aI h1 hk;have s2:=aI h2 hl;have hd:=Nat.mul_ne_zero ok1.2.2.1 ok2.2.2.1;have lp:(nw (nv (ag r).2.1*nv (ag s).2.2)).length<=k+l:=Nat.le_trans (aF ok1.1 ok2.2.1) (by omega);have lq:(nw (nv (ag s).2.1*nv (ag r).2.2)).length<=k+l:=Nat.le_trans (aF ok2.1 ok1.2.1) (by omega);have ld:(nw (nv (ag r).2.2*nv (ag s).2.2)).length<=k+l+1:=Nat.le_trans (aF ok1.2.1 ok2.2.1) (by omega);by_cases h:(ag r).1=(ag s).1
 ·rw [<-jW hr hs h];exact dU _ hd (iO lp lq) ld
 ·rcases Nat.lt_or_ge (nv (ag r).2.1*nv (ag s).2.2) (nv (ag s).2.1*nv (ag r).2.2) with h2 | h2
  ·rw [<-iQ hr hs h (Nat.le_of_lt h2)];exact dU _ hd (Nat.le_trans (bT (Nat.sub_le _ _)) (Nat.le_succ_of_le lq)) ld
  ·rw [<-j_ hr hs h h2];exact dU _ hd (Nat.le_trans (bT (Nat.sub_le _ _)) (Nat.le_succ_of_le lp)) ld
theorem xI (va vb:Value) (r s:Rw) (w:World) (ha:RatAt w va r) (hb:RatAt w vb s) (hr:r.Short 68719476736) (hs:s.Short 68719476736):Calls Tryz.prog 70 #[va,vb] w fun e w'=>(∃ v',e=.returned v'/\RatAt w' v' (aj (al r - al s)))/\af w w':=by
 have HNE:=ae (fun W (hk:af w W)=>xD vb s W (hb.kept hk) ⟨Nat.le_trans hs.1 (by omega),Nat.le_trans hs.2 (by omega)⟩);obtain ⟨R,hR⟩:∃ R,R=aj (al r - al s):=⟨_,rfl⟩
 have HAD:Hid (∀ W v,af w W->RatAt W v (aj (- al s))->Calls Tryz.prog 117 #[va,v] W fun e w'=>(∃ v',e=.returned v'/\RatAt w' v' R)/\af W w'):=ae fun W v hk hv=>by
  have h:=qg va v r _ W (ha.kept hk) hv hr (fK hb.ok hs (by omega));rw [aA,<-Rat.sub_eq_add_neg,<-hR] at h;exact h
 rw [<-hR];obtain ⟨u1,u2,rfl,h1,h2⟩:=ha;obtain ⟨u3,u4,rfl,h3,h4⟩:=hb;obtain ⟨a1,c1,rfl⟩:=h1.shape;obtain ⟨a2,c2,rfl⟩:=h2.shape;obtain ⟨a3,c3,rfl⟩:=h3.shape;obtain ⟨a4,c4,rfl⟩:=h4.shape;generalize r.num.length=n1 at *;generalize r.den.length=n2 at *;generalize s.num.length=n3 at *;generalize s.den.length=n4 at *;generalize r.neg=neg1 at *;generalize s.neg=neg2 at *;obtain ⟨w2,hw2⟩:∃ w2,w2=((w.alloc (.cells #[.bool neg1,.slice a1 n1 c1,.slice a2 n2 c2] 29)).alloc (.cells #[.bool neg2,.slice a3 n3 c3,.slice a4 n4 c4] 29)).alloc (.cells #[.bool false,.slice none 0 0,.slice none 0 0] 29):=⟨_,rfl⟩;have HM:=ae (cM w (.cells #[.bool neg1,.slice a1 n1 c1,.slice a2 n2 c2] 29) (.cells #[.bool neg2,.slice a3 n3 c3,.slice a4 n4 c4] 29));rw [<-hw2] at HM;have ha2:=ai.made w #[.bool neg1,.slice a1 n1 c1,.slice a2 n2 c2] 29;have HA2:Hid (ai w2 w.heap.size 29 [.bool neg1,.slice a1 n1 c1,.slice a2 n2 c2]):=ae (by rw [hw2];exact ha2.kept (((af.refl _).alloc _).alloc _));have hb2:=ai.made (w.alloc (.cells #[.bool neg1,.slice a1 n1 c1,.slice a2 n2 c2] 29)) #[.bool neg2,.slice a3 n3 c3,.slice a4 n4 c4] 29;simp only [World.size_alloc] at hb2;have HB2:Hid (ai w2 (w.heap.size+1) 29 [.bool neg2,.slice a3 n3 c3,.slice a4 n4 c4]):=ae (by rw [hw2];exact hb2.kept ((af.refl _).alloc _));have HW2:=ae hw2;clear hR h1 h2 h3 h4 hr hs hw2 ha2 hb2;have p0:=HA2.out.cell (i:=0) (by simp)
 have p1:=HA2.out.cell (i:=1) (by simp);have p2:=HA2.out.cell (i:=2) (by simp);have g0:=HB2.out.cell (i:=0) (by simp);have g1:=HB2.out.cell (i:=1) (by simp);have g2:=HB2.out.cell (i:=2) (by simp);simp only [List.getElem_cons_succ,List.getElem_cons_zero] at p0 p1 p2 g0 g1 g2;go_enter Tryz.func70,Tryz.ntmps70;go_wp2_with fail;rw [<-HW2.out]
 go_region_with (first
  | (go_at_call 118;(with_reducible refine (HNE.out _ HM.out.2.2.drew).mono ?_);rintro e w3 ⟨⟨v3,rfl,hv3⟩,hk3⟩;have hkd:=(af.refl w2).drew.trans hk3;have x0:=hkd.cell p0;have x1:=hkd.cell p1;have x2:=hkd.cell p2;have HV3:=ae hv3;have HKD:=ae hkd;have HR3:=ae (HM.out.1.kept hkd);have HF3:=ae (HM.out.2.1.kept hkd);clear hv3 hk3 hkd)
  | (go_at_call 117;(with_reducible refine (HAD.out _ _ (HM.out.2.2.trans HKD.out) HV3.out).mono ?_);rintro e w4 ⟨⟨v4,rfl,hv4⟩,hk4⟩;have hr4:=HR3.out.kept hk4;have HR4:=ae hr4;have HF4:=ae (HF3.out.kept hk4);have HK4:=ae ((HM.out.2.2.trans HKD.out).trans hk4);obtain ⟨u5,u6,rfl,k5,k6⟩:=hv4;obtain ⟨a5,c5,rfl⟩:=k5.shape;obtain ⟨a6,c6,rfl⟩:=k6.shape;have K5:=ae k5;have K6:=ae k6;have z0:=hr4.cell (i:=0) (by simp);have z1:=hr4.cell (i:=1) (by simp);have z2:=hr4.cell (i:=2) (by simp);have f0:=hr4.free 0;have f1:=hr4.free 1;have f2:=hr4.free 2;clear k5 k6 hr4 hk4))
 all_goals
  obtain ⟨y0,y1,y2,hra⟩:=az HR4.out HF4.out K5.out K6.out;generalize R.num.length=n7 at *;generalize R.den.length=n8 at *;go_wp2;refine bodyPost_ret (v:=.agg #[.bool R.neg,.slice a5 n7 c5,.slice a6 n8 c6]) ?_ rfl ⟨⟨_,rfl,hra⟩,?_⟩
  ·simp [results,Tryz.results70,go_sem,y0,y1,y2]
  ·exact ((HK4.out.store (by omega) _ _).store (by omega) _ _).store (by omega) _ _
def fi (r:Rw):Bool:=br r&&!r.neg&&decide (nv r.num<=nv r.den)
theorem rf (a b:Nat):cU a b<=0 ↔ a<=b:=by
 rcases Nat.lt_trichotomy a b with h | h | h
 ·rw [ff h];omega
 ·rw [fe h];omega
 ·rw [eJ h];omega
theorem uS (v:Value) (r:Rw) (w:World) (hv:RatAt w v r) (hs:r.Short 274877906944):Calls Tryz.prog 28 #[v] w fun e w'=>e=.returned (.bool (fi r))/\af w w':=by
 have HVA:=ae (fun W (hk:af w W)=>ju v r W (hv.kept hk) hs);obtain ⟨neg,num,den⟩:=r;obtain ⟨u1,u2,rfl,h1,h2⟩:=hv;simp only at h1 h2;obtain ⟨a1,c1,rfl⟩:=h1.shape;obtain ⟨a2,c2,rfl⟩:=h2.shape
 have hP:fi ⟨neg,num,den⟩=(br ⟨neg,num,den⟩&&!neg&&decide (cU (nv num) (nv den)<=0)):=by
  unfold fi;congr 1;exact decide_eq_decide.2 (rf _ _).symm
 rw [hP];have HCM:=ae (fun W (hk:af w W)=>dM _ _ num den W (h1.kept hk) (h2.kept hk));have HR:=ae (ai.made w #[.bool neg,.slice a1 num.length c1,.slice a2 den.length c2] 29);have HK0:Hid (af w (w.alloc (.cells #[.bool neg,.slice a1 num.length c1,.slice a2 den.length c2] 29))):=ae ((af.refl w).alloc _);generalize cU (nv num) (nv den)=cm at *;generalize br ⟨neg,num,den⟩=vb at *;generalize num.length=n1 at *;generalize den.length=n2 at *;obtain ⟨w1,hw1⟩:∃ w1,w1=w.alloc (.cells #[.bool neg,.slice a1 n1 c1,.slice a2 n2 c2] 29):=⟨_,rfl⟩;rw [<-hw1] at HR HK0;have HW1:=ae hw1;have q0:=HR.out.cell (i:=0) (by simp);have q1:=HR.out.cell (i:=1) (by simp);have q2:=HR.out.cell (i:=2) (by simp);simp only [List.getElem_cons_succ,List.getElem_cons_zero] at q0 q1 q2;clear h1 h2 hP hs hw1;cases vb with
 | false =>
  go_enter Tryz.func28,Tryz.ntmps28;go_wp2_with fail;rw [<-HW1.out];refine (HVA.out _ HK0.out).mono ?_;rintro e w2 ⟨rfl,hk2⟩;have HK2:=ae (HK0.out.trans hk2);clear hk2;go_wp2;go_ret;exact ⟨by simp,HK2.out⟩
 | true =>
  cases neg with
  | true =>
   go_enter Tryz.func28,Tryz.ntmps28;go_wp2_with fail;rw [<-HW1.out];refine (HVA.out _ HK0.out).mono ?_;rintro e w2 ⟨rfl,hk2⟩;have y0:=hk2.cell q0;have HK2:=ae (HK0.out.trans hk2);clear hk2;go_wp2;go_ret;exact ⟨by simp,HK2.out⟩
  | false =>
   go_enter Tryz.func28,Tryz.ntmps28;go_wp2_with fail;rw [<-HW1.out];refine (HVA.out _ HK0.out).mono ?_;rintro e w2 ⟨rfl,hk2⟩;have y0:=hk2.cell q0;have y1:=hk2.cell q1;have y2:=hk2.cell q2;have HK2:=ae (HK0.out.trans hk2);clear hk2;go_wp2_with fail;refine (HCM.out _ HK2.out).mono ?_;rintro e w3 ⟨rfl,hk3⟩;have HK3:=ae (HK2.out.trans hk3);clear hk3;go_wp2;go_ret;exact ⟨by simp,HK3.out⟩
theorem oH (n:Int) (w:World) (h1:-9223372036854775808<n) (h2:n<9223372036854775808):Calls Tryz.prog 142 #[.int .i64 n] w fun e w'=>(∃ v',e=.returned v'/\ah w' v' (nw n.natAbs))/\af w w':=by
 obtain ⟨m,hm⟩:∃ m,m=n.natAbs:=⟨_,rfl⟩;have hm9:m<9223372036854775808:=by omega
 have HOF:=ae (fun W=>th m W hm9);have hne:(n == -9223372036854775808)=false:=by simp;omega
 have hmx:max n (-n)=(m:Int):=by omega
 rw [<-hm];clear hm;go_enter Tryz.func142,Tryz.ntmps142;go_wp2_with fail;refine (HOF.out _).mono ?_;rintro e w2 ⟨⟨v2,rfl,hv2⟩,hk2⟩;have HV2:=ae hv2;have HK2:=ae hk2;clear hv2 hk2;go_wp2;go_ret;exact ⟨⟨_,rfl,HV2.out⟩,HK2.out⟩
theorem zZ (n:Int):mkRat (sg (decide (n<0)) n.natAbs) 1=(n:Rat):=by
 have e:sg (decide (n<0)) n.natAbs=n:=by
  unfold sg;by_cases h:n<0
  ·simp [h];omega
  ·simp [h];omega
 rw [e,Rat.mkRat_one]
theorem yW (n:Int) (w:World) (h1:-9223372036854775808<n) (h2:n<9223372036854775808):Calls Tryz.prog 96 #[.int .i64 n] w fun e w'=>(∃ v',e=.returned v'/\RatAt w' v' (aj (n:Rat)))/\af w w':=by
 have HSZ:=ae (fun W=>oH n W h1 h2);obtain ⟨R,hR⟩:∃ R,R=aj (n:Rat):=⟨_,rfl⟩;obtain ⟨b,hb⟩:∃ b,decide (n<0)=b:=⟨_,rfl⟩
 have HFO:Hid (∀ W u1 u2,ah W u1 (nw n.natAbs)->ah W u2 [1]->Calls Tryz.prog 141 #[.bool b,u1,u2] W fun e w'=>(∃ v,e=.returned v/\RatAt w' v R)/\af W w'):=ae fun W u1 u2 k1 k2=>by
  have hl:(nw n.natAbs).length<=2:=aL.2 (by rw [show (4294967296:Nat)^2=18446744073709551616 by rfl];omega);have h:=dZ b u1 u2 _ _ W k1 k2 (by omega) (by simp) (by simp [nv]);rw [am,show nv [1]=1 by rfl,ci _ _ _ (by omega),<-hb,zZ,<-hR] at h;rw [<-hb];exact h
 rw [<-hR];generalize nw n.natAbs=X at *;obtain ⟨w2,hw2⟩:∃ w2,w2=w.alloc (.cells #[.bool false,.slice none 0 0,.slice none 0 0] 29):=⟨_,rfl⟩;have HR:Hid (ai w2 w.heap.size 29 [.bool false,.slice none 0 0,.slice none 0 0]):=ae (by rw [hw2];exact ai.made w #[.bool false,.slice none 0 0,.slice none 0 0] 29);have HFX:Hid (a_ w2 w.heap.size [.bool false,.slice none 0 0,.slice none 0 0]):=ae (by rw [hw2];exact a_.made w #[.bool false,.slice none 0 0,.slice none 0 0] 29);have HK0:Hid (af w w2):=ae (by rw [hw2];exact (af.refl w).alloc _);have HW2:=ae hw2;have HB:=ae hb;clear hw2 hR hb h1 h2;go_enter Tryz.func96,Tryz.ntmps96;go_wp2_with fail;rw [<-HW2.out];refine (HSZ.out _).mono ?_;rintro e w3 ⟨⟨v3,rfl,hv3⟩,hk3⟩;have HV3:=ae hv3;have HR3:=ae (HR.out.kept hk3);have HF3:=ae (HFX.out.kept hk3);have HK3:=ae (HK0.out.trans hk3);clear hv3 hk3;go_wp2_with fail;refine (gF _).mono ?_;rintro e w4 ⟨⟨v4,rfl,hv4⟩,hk4⟩;have HV4:=ae hv4;have HV3':=ae (HV3.out.kept hk4);have HR4:=ae (HR3.out.kept hk4);have HF4:=ae (HF3.out.kept hk4);have HK4:=ae (HK3.out.trans hk4);clear hv4 hk4;go_wp2_with fail;rw [HB.out];refine (HFO.out _ _ _ HV3'.out HV4.out).mono ?_;rintro e w10 ⟨⟨v10,rfl,hv10⟩,hk10⟩;have hr10:=HR4.out.kept hk10;have HF10:=ae (HF4.out.kept hk10);have HK10:=ae (HK4.out.trans hk10);obtain ⟨u7,u8,rfl,k7,k8⟩:=hv10
 obtain ⟨a7,c7,rfl⟩:=k7.shape;obtain ⟨a8,c8,rfl⟩:=k8.shape;obtain ⟨y0,y1,y2,hra⟩:=az hr10 HF10.out k7 k8;have g0:=hr10.cell (i:=0) (by simp);have g1:=hr10.cell (i:=1) (by simp);have g2:=hr10.cell (i:=2) (by simp);have f0:=hr10.free 0;have f1:=hr10.free 1;have f2:=hr10.free 2;have HRA:=ae hra;have Y0:=ae y0;have Y1:=ae y1;have Y2:=ae y2;clear hra y0 y1 y2 k7 k8 hr10 hk10;generalize R.num.length=n7 at *;generalize R.den.length=n8 at *;go_wp2;refine bodyPost_ret (v:=.agg #[.bool R.neg,.slice a7 n7 c7,.slice a8 n8 c8]) ?_ rfl ⟨⟨_,rfl,HRA.out⟩,?_⟩
 ·simp [results,Tryz.results96,go_sem,Y0.out,Y1.out,Y2.out]
 ·exact ((HK10.out.store (by omega) _ _).store (by omega) _ _).store (by omega) _ _
theorem kB {a b:List Nat} (ha:Wd a) {k:Nat} (hd:∀ i,k<i->a.getD i 0=b.getD i 0) (hlt:a.getD k 0<b.getD k 0):nv a<nv b:=by
 have key:∀ j,nv (a.take (k+1+j))<nv (b.take (k+1+j)):=by
  intro j;induction j with
  | zero =>
   rw [Nat.add_zero,ap,ap];have h1:nv (a.take k)<4294967296^k:=Nat.lt_of_lt_of_le (dl (ha.take k)) (Nat.pow_le_pow_right (by omega) (by rw [List.length_take];omega));have h2:(a.getD k 0+1)*4294967296^k<=b.getD k 0*4294967296^k:=Nat.mul_le_mul_right _ hlt;rw [Nat.add_mul,Nat.one_mul] at h2;omega
  | succ j ih =>
   rw [<-Nat.add_assoc,ap,ap,hd (k+1+j) (by omega)];omega
 have:=key (a.length+b.length)
 rwa [aC a _ (by omega),aC b _ (by omega)] at this
theorem pT {a b:List Nat} (hd:∀ i,a.getD i 0=b.getD i 0):nv a=nv b:=by
 have key:∀ j,nv (a.take j)=nv (b.take j):=by
  intro j;induction j with
  | zero=>simp
  | succ j ih=>rw [ap,ap,ih,hd]
 have:=key (a.length+b.length)
 rwa [aC a _ (by omega),aC b _ (by omega)] at this
theorem eX (va vb:Value) (xs ys:List Nat) (w:World) (ha:ah w va xs) (hb:ah w vb ys):Calls Tryz.prog 175 #[va,vb] w fun e w'=>e=.returned (.int .i64 (cU (nv xs) (nv ys)))/\w'=w:=by
 have HA:=ae (fun (i:Nat)=>cC va xs i w ha);have HB:=ae (fun (i:Nat)=>cC vb ys i w hb);have HWA:=ae ha.wd;have HWB:=ae hb.wd;have hl0:=ha.len;have hl1:=hb.len;obtain ⟨a0,c0,rfl⟩:=ha.shape;obtain ⟨a1,c1,rfl⟩:=hb.shape;obtain ⟨l0,h0⟩:∃ l0,l0=xs.length:=⟨_,rfl⟩;obtain ⟨l1,h1⟩:∃ l1,l1=ys.length:=⟨_,rfl⟩;rw [<-h0] at HA hl0⊢;rw [<-h1] at HB hl1⊢;have H0:=ae h0;have H1:=ae h1;obtain ⟨p,hp⟩:∃ p,p=max l0 l1:=⟨_,rfl⟩;have hp9:p<=1099511627776:=by omega
 have e0:max (l0:Int) (l1:Int)=(p:Int):=by omega
 have HP:Hid (l0<=p/\l1<=p):=ae (by omega);clear ha hb h0 h1 hp;go_enter Tryz.func175,Tryz.ntmps175;go_wp2_with fail;go_loopg [5] p (fun kx s5 wr=>∃ k:Nat,s5=.int .i64 ((k:Int) - 1)/\k<=p/\k<=kx/\Hid (∀ i,k<=i->xs.getD i 0=ys.getD i 0)/\w=wr)
 case atStart=>exact ⟨p,rfl,Nat.le_refl _,Nat.le_refl _,ae (fun i hi=>by
  have h1:=HP.out;have h2:=H0.out;have h3:=H1.out;simp [List.getD_eq_getElem?_getD,show xs.length<=i by omega,show ys.length<=i by omega]),rfl⟩
 case round =>
  obtain ⟨k,rfl,hk,hkx,HD,rfl⟩:=hrel;by_cases hk0:k=0
  ·subst hk0;have HC:=ae (fe (pT fun i=>HD.out i (by omega)));go_wp2_with fail;go_ret;exact ⟨by rw [HC.out];first | done | rfl,rfl⟩
  ·obtain ⟨j,rfl⟩:∃ j,k=j+1:=⟨k - 1,by omega⟩;have HX:=ae (HA.out j);have HY:=ae (HB.out j);have hxw:=HWA.out.getD j;have hyw:=HWB.out.getD j;have HLT:Hid (xs.getD j 0<ys.getD j 0->nv xs<nv ys):=ae fun h=>kB HWA.out (fun i hi=>HD.out i (by omega)) h
   have HGT:Hid (ys.getD j 0<xs.getD j 0->nv ys<nv xs):=ae fun h=>kB HWB.out (fun i hi=>(HD.out i (by omega)).symm) h
   have HEQ:Hid (xs.getD j 0=ys.getD j 0->∀ i,j<=i->xs.getD i 0=ys.getD i 0):=ae fun h i hi=>by
    by_cases e:i=j
    ·rw [e];exact h
    ·exact HD.out i (by omega)
   generalize xs.getD j 0=x at *;generalize ys.getD j 0=y at *;have e1:((j+1:Nat):Int) - 1=(j:Int):=by omega
   rw [e1];have hj0:(0:Int)<=(j:Int):=by omega
   clear e1 hk0;rcases Nat.lt_trichotomy x y with h | h | h
   ·have HC:=ae (ff (HLT.out h));go_wp2_with (first | (go_at_call 226;(with_reducible refine HX.out.mono ?_);rintro e w2 ⟨rfl,rfl⟩) | (go_at_call 226;(with_reducible refine HY.out.mono ?_);rintro e w2 ⟨rfl,rfl⟩));go_ret;exact ⟨by rw [HC.out];first | done | rfl,rfl⟩
   ·subst h;have hr:=ae (HEQ.out rfl);have h':¬ x<x:=by omega
    go_wp2_with (first | (go_at_call 226;(with_reducible refine HX.out.mono ?_);rintro e w2 ⟨rfl,rfl⟩) | (go_at_call 226;(with_reducible refine HY.out.mono ?_);rintro e w2 ⟨rfl,rfl⟩));go_roundg j
    case measure=>omega
    case rel=>exact ⟨j,rfl,by omega,Nat.le_refl _,hr,rfl⟩
   ·have HC:=ae (eJ (HGT.out h));have h':¬ x<y:=by omega
    go_wp2_with (first | (go_at_call 226;(with_reducible refine HX.out.mono ?_);rintro e w2 ⟨rfl,rfl⟩) | (go_at_call 226;(with_reducible refine HY.out.mono ?_);rintro e w2 ⟨rfl,rfl⟩));go_ret;exact ⟨by rw [HC.out];first | done | rfl,rfl⟩
theorem jn {L:List Nat} {i:Nat} (h:L.length=i) (r:Nat):nv (L++[r])=nv L+r*4294967296^i:=by
 rw [jS,cu,cz,h,Nat.mul_zero,Nat.add_zero,Nat.mul_comm]
theorem si (va vb:Value) (xs ys:List Nat) (w:World) (ha:ah w va xs) (hb:ah w vb ys) (hla:xs.length<=549755813888) (hlb:ys.length<=549755813888) :
  Calls Tryz.prog 174 #[va,vb] w fun e w'=>(∃ v',e=.returned v'/\ah w' v' (nw (nv xs+nv ys)))/\af w w':=by
 have HA:=ae (fun W (hk:af w W) (i:Nat)=>cC va xs i W (ha.kept hk));have HB:=ae (fun W (hk:af w W) (i:Nat)=>cC vb ys i W (hb.kept hk));have HWA:=ae ha.wd;have HWB:=ae hb.wd;obtain ⟨a0,c0,rfl⟩:=ha.shape;obtain ⟨a1,c1,rfl⟩:=hb.shape;obtain ⟨l0,h0⟩:∃ l0,l0=xs.length:=⟨_,rfl⟩;obtain ⟨l1,h1⟩:∃ l1,l1=ys.length:=⟨_,rfl⟩;rw [<-h0] at HA hla⊢;rw [<-h1] at HB hlb⊢;have H0:=ae h0;have H1:=ae h1;obtain ⟨m,hm⟩:∃ m,m=max l0 l1:=⟨_,rfl⟩;have hm9:m<=549755813888:=by omega
 have e0:max (l0:Int) (l1:Int)=(m:Int):=by omega
 obtain ⟨p,hp⟩:∃ p,p=m+1:=⟨_,rfl⟩;have e1:(m:Int)+1=(p:Int):=by omega
 have hp9:p<=549755813889:=by omega
 have HP:Hid (l0+1<=p/\l1+1<=p):=ae (by omega);clear ha hb h0 h1 hm hp;go_enter Tryz.func174,Tryz.ntmps174;go_wp2_with fail;go_loopg [5,6,15] p (fun kx s5 s6 s15 wr=>∃ (i c:Nat) (L:List Nat),s6=.int .u64 c/\s15=.int .i64 i/\i<=p/\p - i<=kx/\c<=1/\Hid (bf wr w.heap.size s5 L)/\Hid (L.length=i)/\Hid (nv L+c*4294967296^i=nv (xs.take i)+nv (ys.take i))/\Hid (af w wr))
 case atStart=>exact ⟨0,0,[],rfl,rfl,Nat.zero_le _,by omega,by omega,ae (bf.nil _ _),ae rfl,ae (by simp [cz]),ae (af.refl _)⟩
 case round =>
  obtain ⟨i,c,L,rfl,rfl,hi,hkx,hc,HO,HL,HI,HK⟩:=hrel;by_cases hlt:i<p
  ·have hx:=HWA.out.getD i;have hy:=HWB.out.getD i;have HX:=ae (HA.out wr HK.out i);have HY:=ae (HB.out wr HK.out i)
   have HST:Hid (∀ s,s=c+xs.getD i 0+ys.getD i 0->nv (L++[s % 4294967296])+(s / 4294967296)*4294967296^(i+1)=nv (xs.take (i+1))+nv (ys.take (i+1))):=ae fun s hs=>by
    have:=kn HI.out hs;rw [jn HL.out,ap,ap,<-this,Nat.pow_succ,Nat.mul_comm (4294967296^i)]
   generalize xs.getD i 0=x at *;generalize ys.getD i 0=y at *;have hkn:(i:Int)<(p:Int):=by omega
   obtain ⟨t,ht⟩:∃ t,t=x+y:=⟨_,rfl⟩;obtain ⟨s,hs⟩:∃ s,s=c+x+y:=⟨_,rfl⟩;have hs9:s<18446744073709551616:=by omega
   have ht9:t<18446744073709551616:=by omega
   obtain ⟨r,hr⟩:∃ r,r=s % 4294967296:=⟨_,rfl⟩;obtain ⟨q,hq⟩:∃ q,q=s / 4294967296:=⟨_,rfl⟩;have hr9:r<4294967296:=by omega
   have hq9:q<=1:=by omega
   have HSS:=ae (HST.out s hs);rw [<-hr,<-hq] at HSS;have e2:(x:Int)+(y:Int)=(t:Int):=by omega
   have e3:(t:Int)+(c:Int)=(s:Int):=by omega
   have e6:(s:Int) / 4294967296=(q:Int):=by omega
   have e5:IntKind.u32.wrap (s:Int)=(r:Int):=by rw [IntKind.wrap_u32];omega
   have hi9:i<1099511627776:=by omega
   have HSZ:=ae HK.out.size;clear HST hs hr hq ht
   go_wp2_with (first
    | (go_at_call 226;(with_reducible refine HX.out.mono ?_);rintro e w2 ⟨rfl,rfl⟩)
    | (go_at_call 226;(with_reducible refine HY.out.mono ?_);rintro e w2 ⟨rfl,rfl⟩)
    | (at_builtin;refine iu rfl _ _ rfl w.heap.size _ L rfl (HO.out.kept ((af.refl _).alloc _)) _ r rfl (by simp) hr9 (by rw [HL.out];exact hi9) (by have:=HSZ.out;simp;omega) ?_;intro v7 w7 h7 hb7;have O7:=ae h7;have HB7:=ae hb7;clear h7 hb7))
   go_roundg (p - (i+1))
   case measure=>omega
   case rel=>exact ⟨i+1,q,L++[r],rfl,by go_num,by omega,Nat.le_refl _,hq9,O7,ae (by rw [List.length_append,HL.out];rfl),HSS,ae ((HK.out.alloc _).app HB7.out)⟩
  ·have hip:i=p:=by omega
   have HV:Hid (nv L=nv xs+nv ys):=ae (oS (L:=L) (i:=i) (c:=c) (p:=p) (by rw [aC L i (by rw [HL.out];exact Nat.le_refl _)];exact HI.out) hip (by have h1:=HP.out;have h2:=H0.out;omega) (by have h1:=HP.out;have h2:=H1.out;omega) (by rw [HL.out];exact hip) HWA.out HWB.out);have HT:=ae (df _ _ _ HO.out.at);clear hip;go_wp2_with fail;refine HT.out.mono ?_;rintro e w2 ⟨⟨v2,rfl,hv2⟩,hk2⟩;have HV2:=ae hv2;have HK2:=ae (HK.out.trans hk2);clear hv2 hk2;go_wp2;go_ret;exact ⟨⟨_,rfl,by rw [<-HV.out];exact HV2.out.at⟩,HK2.out⟩
theorem lV (va vb:Value) (xs ys:List Nat) (w:World) (ha:ah w va xs) (hb:ah w vb ys) (hle:nv ys<=nv xs) :
  Calls Tryz.prog 176 #[va,vb] w fun e w'=>(∃ v',e=.returned (.tuple #[v',.int .i64 0])/\bf w' w.heap.size v' (nw (nv xs - nv ys)))/\af w w':=by
 have HA:=ae (fun W (hk:af w W) (i:Nat)=>cC va xs i W (ha.kept hk));have HB:=ae (fun W (hk:af w W) (i:Nat)=>cC vb ys i W (hb.kept hk));have HCMP:=ae (eX va vb xs ys w ha hb);have HWA:=ae ha.wd;have HWB:=ae hb.wd;have hc0:0<=cU (nv xs) (nv ys):=by unfold cU;split <;> (try split) <;> omega
 obtain ⟨cv,hcv⟩:∃ cv,cv=cU (nv xs) (nv ys):=⟨_,rfl⟩;rw [<-hcv] at HCMP hc0;obtain ⟨a0,c0,rfl⟩:=ha.shape;obtain ⟨a1,c1,rfl⟩:=hb.shape;obtain ⟨p,h0⟩:∃ p,p=xs.length:=⟨_,rfl⟩;have hp9:p<=1099511627776:=by rw [h0];exact ha.len
 rw [<-h0] at HA HCMP⊢;generalize ys.length=l1 at *;have H0:=ae h0;have HLE:=ae hle;have hc1:¬ cv<0:=by omega
 clear ha hb h0 hle hcv hc0;go_enter Tryz.func176,Tryz.ntmps176;go_wp2_with fail;refine HCMP.out.mono ?_;rintro e w0 ⟨rfl,rfl⟩;go_wp2_with fail;go_loopg [6,7,16] p (fun kx s6 s7 s16 wr=>∃ (i c:Nat) (L:List Nat),s7=.int .u64 c/\s16=.int .i64 i/\i<=p/\p - i<=kx/\c<=1/\Hid (bf wr w0.heap.size s6 L)/\Hid (L.length=i)/\Hid (nv L+nv (ys.take i)=nv (xs.take i)+c*4294967296^i)/\Hid (af w0 wr))
 case atStart=>exact ⟨0,0,[],rfl,rfl,Nat.zero_le _,by omega,by omega,ae (bf.nil _ _),ae rfl,ae (by simp [cz]),ae (af.refl _)⟩
 case round =>
  obtain ⟨i,c,L,rfl,rfl,hi,hkx,hc,HO,HL,HI,HK⟩:=hrel;by_cases hlt:i<p
  ·have hx:=HWA.out.getD i;have hy:=HWB.out.getD i;have HX:=ae (HA.out wr HK.out i);have HY:=ae (HB.out wr HK.out i)
   have HST:Hid (∀ o b',o+ys.getD i 0+c=xs.getD i 0+b'*4294967296->nv (L++[o])+nv (ys.take (i+1))=nv (xs.take (i+1))+b'*4294967296^(i+1)):=ae fun o b' hs=>by
    have:=qJ HI.out hs;rw [jn HL.out,ap,ap,this,Nat.pow_succ,Nat.mul_comm (4294967296^i)]
   generalize xs.getD i 0=x at *;generalize ys.getD i 0=y at *;have hkn:(i:Int)<(p:Int):=by omega
   obtain ⟨o,b',D,ho,hb',hD,hob,hm,hd,hcs⟩:=fP hx hy hc;have HSS:=ae (HST.out o b' hob);have e5:IntKind.u32.wrap (D:Int)=(o:Int):=by rw [IntKind.wrap_u32];omega
   have e6:(D:Int) / 9223372036854775808=(b':Int):=by omega
   have HSZ:=ae HK.out.size;have HI9:Hid (L.length<1099511627776):=ae (by rw [HL.out];omega);clear HST hob hm hd;rcases hcs with ⟨h1,h2⟩ | ⟨h1,D1,h2,h3⟩ | ⟨h1,h2,h3⟩
   ·go_wp2_with (first
     | (go_at_call 226;(with_reducible refine HX.out.mono ?_);rintro e w2 ⟨rfl,rfl⟩)
     | (go_at_call 226;(with_reducible refine HY.out.mono ?_);rintro e w2 ⟨rfl,rfl⟩)
     | (at_builtin;refine iu rfl _ _ rfl w0.heap.size _ L rfl (HO.out.kept ((af.refl _).alloc _)) _ o rfl (by simp) ho HI9.out (by have:=HSZ.out;simp;omega) ?_;intro v7 w7 h7 hb7;have O7:=ae h7;have HB7:=ae hb7;clear h7 hb7))
    go_roundg (p - (i+1))
    case measure=>omega
    case rel=>exact ⟨i+1,b',L++[o],rfl,by go_num,by omega,Nat.le_refl _,hb',O7,ae (by rw [List.length_append,HL.out];rfl),HSS,ae ((HK.out.alloc _).app HB7.out)⟩
   ·have e1:=km h2 (by omega);have hD1:D1<18446744073709551616:=by omega
    clear h2
    go_wp2_with (first
     | (go_at_call 226;(with_reducible refine HX.out.mono ?_);rintro e w2 ⟨rfl,rfl⟩)
     | (go_at_call 226;(with_reducible refine HY.out.mono ?_);rintro e w2 ⟨rfl,rfl⟩)
     | (at_builtin;refine iu rfl _ _ rfl w0.heap.size _ L rfl (HO.out.kept ((af.refl _).alloc _)) _ o rfl (by simp) ho HI9.out (by have:=HSZ.out;simp;omega) ?_;intro v7 w7 h7 hb7;have O7:=ae h7;have HB7:=ae hb7;clear h7 hb7))
    go_roundg (p - (i+1))
    case measure=>omega
    case rel=>exact ⟨i+1,b',L++[o],rfl,by go_num,by omega,Nat.le_refl _,hb',O7,ae (by rw [List.length_append,HL.out];rfl),HSS,ae ((HK.out.alloc _).app HB7.out)⟩
   ·have e1:=km h3 (by omega);have g1:x<=y:=by omega
    have g2:y<=x:=by omega
    have g3:1<=c:=by omega
    clear h1 h2 h3
    go_wp2_with (first
     | (go_at_call 226;(with_reducible refine HX.out.mono ?_);rintro e w2 ⟨rfl,rfl⟩)
     | (go_at_call 226;(with_reducible refine HY.out.mono ?_);rintro e w2 ⟨rfl,rfl⟩)
     | (at_builtin;refine iu rfl _ _ rfl w0.heap.size _ L rfl (HO.out.kept ((af.refl _).alloc _)) _ o rfl (by simp) ho HI9.out (by have:=HSZ.out;simp;omega) ?_;intro v7 w7 h7 hb7;have O7:=ae h7;have HB7:=ae hb7;clear h7 hb7))
    go_roundg (p - (i+1))
    case measure=>omega
    case rel=>exact ⟨i+1,b',L++[o],rfl,by go_num,by omega,Nat.le_refl _,hb',O7,ae (by rw [List.length_append,HL.out];rfl),HSS,ae ((HK.out.alloc _).app HB7.out)⟩
  ·have hip:i=p:=by omega
   have HV:Hid (nv L=nv xs - nv ys):=ae (qI (L:=L) (i:=i) (b:=c) (p:=p) (by rw [aC L i (by rw [HL.out];exact Nat.le_refl _)];exact HI.out) hip H0.out.symm (by rw [HL.out];exact hip) HO.out.at.wd HWA.out HLE.out);have HT:=ae (df _ _ _ HO.out.at);clear hip;go_wp2_with fail;refine HT.out.mono ?_;rintro e w2 ⟨⟨v2,rfl,hv2⟩,hk2⟩;have HV2:=ae hv2;have HK2:=ae (HK.out.trans hk2);clear hv2 hk2;go_wp2;go_ret2;exact ⟨⟨_,rfl,by rw [<-HV.out];exact HV2.out.mono HK.out.size⟩,HK2.out⟩
theorem iS (va vb:Value) (xs ys:List Nat) (w:World) (ha:ah w va xs) (hb:ah w vb ys) (hle:nv ys<=nv xs) :
  Calls Tryz.prog 176 #[va,vb] w fun e w'=>(∃ v',e=.returned (.tuple #[v',.int .i64 0])/\ah w' v' (nw (nv xs - nv ys)))/\af w w' :=
 (lV va vb xs ys w ha hb hle).mono fun _ _ ⟨⟨v',h1,h2⟩,h3⟩=>⟨⟨v',h1,h2.at⟩,h3⟩
theorem bf.older {w w':World} {B g:Nat} {v:Value} {xs:List Nat} (h:bf w B v xs) (hg:g<B) (ho:aH g w w'):bf w' B v xs:=by
 obtain ⟨⟨h1,h2⟩,h3⟩:=h;refine ⟨⟨h1,?_⟩,h3⟩;rcases h2 with h2 | ⟨p,cap,cur,h4,h5,h6,h7⟩
 ·exact .inl h2
 ·refine .inr ⟨p,cap,cur,h4,h5,?_,h7⟩
  have hlt:p<w.heap.size:=by
   rcases Nat.lt_or_ge p w.heap.size with h8 | h8
   ·exact h8
   ·simp [Array.getElem?_eq_none h8] at h6
  rw [ho.block p hlt (by omega)];exact h6
theorem bP (va vb:Value) (xs ys:List Nat) (w:World) (ha:ah w va xs) (hb:ah w vb ys) (hla:xs.length<=274877906944) (hlb:ys.length<=274877906944) :
  Calls Tryz.prog 164 #[va,vb] w fun e w'=>(∃ v',e=.returned v'/\ah w' v' (nw (nv xs*nv ys)))/\af w w':=by
 have HA:=ae ha;have HB:=ae (fun W (hk:af w W) (i:Nat)=>cC vb ys i W (hb.kept hk));have HWB:=ae hb.wd;obtain ⟨a0,c0,rfl⟩:=ha.shape;obtain ⟨a1,c1,rfl⟩:=hb.shape;obtain ⟨l0,h0⟩:∃ l0,l0=xs.length:=⟨_,rfl⟩;obtain ⟨l1,h1⟩:∃ l1,l1=ys.length:=⟨_,rfl⟩;rw [<-h0] at HA hla⊢;rw [<-h1] at HB hlb⊢;have H0:=ae h0;have H1:=ae h1;obtain ⟨p0,hp0⟩:∃ p0,p0=l0+l1:=⟨_,rfl⟩;obtain ⟨p,hp⟩:∃ p,p=p0+1:=⟨_,rfl⟩;obtain ⟨l2,hl2⟩:∃ l2,l2=l1+1:=⟨_,rfl⟩;have e0:(l0:Int)+(l1:Int)=(p0:Int):=by omega
 have e1:(p0:Int)+1=(p:Int):=by omega
 have e2:(l1:Int)+1=(l2:Int):=by omega
 have hp9:p<=549755813889:=by omega
 have hp09:p0<=549755813888:=by omega
 have hl29:l2<=274877906945:=by omega
 have HP:Hid (p=l0+l1+1):=ae (by omega);have HL2:Hid (l2=l1+1):=ae hl2;clear ha hb h0 h1 hp hp0 hl2;go_enter Tryz.func164,Tryz.ntmps164;go_wp2_with (refine cX 27 70 (.int .u32 0) 4 cI Tryz.underlying27 rfl rfl _ _ rfl p rfl rfl (by omega) (by unfold maxLen;omega) ?_;intro w1 hr1 hk1);have HR1:=ae (cW hr1);have HK1:=ae hk1;clear hr1 hk1;go_loopg [20] l0 (fun kx s20 wr=>∃ (i:Nat) (L:List Nat),s20=.int .i64 i/\i<=l0/\l0 - i<=kx/\Hid (ai wr w.heap.size 70 (L.map fp))/\Hid (L.length=p/\Wd L)/\Hid (nv L=nv (xs.take i)*nv ys/\∀ q,i+l1<=q->L.getD q 0=0)/\Hid (af w wr))
 case atStart=>exact ⟨0,List.replicate p 0,rfl,Nat.zero_le _,by omega,HR1,ae ⟨by simp,Wd.zeros _⟩,ae ⟨by rw [jo];simp [cz],fun q _=>by simp [List.getD_eq_getElem?_getD,List.getElem?_replicate];split <;> rfl⟩,HK1⟩
 case round =>
  obtain ⟨wo,rfl⟩:∃ wo:World,wo=wr:=⟨_,rfl⟩;obtain ⟨i,L,rfl,hi,hkx,HR,HL,HI,HK⟩:=hrel;by_cases hlt:i<l0
  ·obtain ⟨b,o,rfl,hcx⟩:=(HA.out.kept HK.out).get i (by have:=H0.out;omega);have hx:=HA.out.wd.getD i;obtain ⟨x,hxx⟩:∃ x,x=xs.getD i 0:=⟨_,rfl⟩;rw [<-hxx] at hcx hx;have HX:=ae hxx;have hkn:(i:Int)<(l0:Int):=by omega
   clear hxx;go_wp2;go_loopg [8,28] l2 (fun kx s8 s28 wq=>∃ (k c:Nat) (L':List Nat),s8=.int .u64 c/\s28=.int .i64 k/\k<=l2/\l2 - k<=kx/\c<4294967296/\Hid (ai wq w.heap.size 70 (L'.map fp))/\Hid (L'.length=p/\Wd L')/\Hid (nv L'+c*4294967296^(i+k)=nv L+x*(nv (ys.take k)*4294967296^i)/\(∀ q,i+l1<=q->i+k<=q->L'.getD q 0=0)/\(l1<k->c=0))/\Hid (af w wq))
   case atStart=>exact ⟨0,0,L,rfl,rfl,Nat.zero_le _,by omega,by omega,HR,HL,ae ⟨by simp [cz],fun q h _=>HI.out.2 q h,fun _=>rfl⟩,HK⟩
   case round =>
    obtain ⟨k,c,L',rfl,rfl,hk,hkx2,hc,HR2,HL2',HI2,HK2⟩:=hrel;by_cases hlt2:k<l2
    ·have hy:=HWB.out.getD k;have hy0:l1<=k->ys.getD k 0=0:=fun h=>by rw [List.getD_eq_getElem?_getD,List.getElem?_eq_none (by rw [<-H1.out];exact h)];rfl
     have HY:=ae (fun W (hk:af wr W)=>HB.out W (HK2.out.trans hk) k);have hpp:=HP.out;have hl2:=HL2.out;have hik:i+k<L'.length:=by have:=HL2'.out.1;omega
     have hikp:i+k<p:=by omega
     obtain ⟨u,hu⟩:∃ u,u=i+k:=⟨_,rfl⟩;have eik:(i:Int)+(k:Int)=(u:Int):=by omega
     have hup:u<p:=by omega
     have hup':(u:Int)<(p:Int):=by omega
     have HU:=ae hu;have f:=HR2.out.free u;have hst:=bl HR2.out u (by rw [hu];exact hik);rw [hu] at hst;have hwz:=HL2'.out.2.getD (i+k);have hz0:l1<=k->L'.getD (i+k) 0=0:=fun h=>HI2.out.2.1 _ (by omega) (Nat.le_refl _)
     have HST:Hid (∀ s,s=c+x*ys.getD k 0+L'.getD (i+k) 0->nv (L'.set (i+k) (s % 4294967296))+(s / 4294967296)*4294967296^(i+(k+1))=nv L+x*(nv (ys.take (k+1))*4294967296^i)):=ae fun s hs=>nh HI2.out.1 hik hs
     generalize ys.getD k 0=y at *;generalize L'.getD (i+k) 0=z at *;obtain ⟨hs1,hs2,hs3⟩:=kh hc hx hy hwz;obtain ⟨s,hs⟩:∃ s,s=c+x*y+z:=⟨_,rfl⟩;have HSS:=ae (HST.out s hs);rw [<-hs] at hs1 hs3;obtain ⟨xy,hxy⟩:∃ xy,xy=x*y:=⟨_,rfl⟩;rw [<-hxy] at hs hs2;have hxy0:y=0->xy=0:=fun h=>by rw [hxy,h,Nat.mul_zero]
     have exy:(x:Int)*(y:Int)=(xy:Int):=by rw [hxy];simp
     obtain ⟨xz,hxz⟩:∃ xz,xz=xy+z:=⟨_,rfl⟩;have exz:(xy:Int)+(z:Int)=(xz:Int):=by omega
     have hxz9:xz<18446744073709551616:=by omega
     obtain ⟨r,hr⟩:∃ r,r=s % 4294967296:=⟨_,rfl⟩;obtain ⟨q,hq⟩:∃ q,q=s / 4294967296:=⟨_,rfl⟩;rw [<-hr,<-hq] at HSS;rw [<-hq] at hs3
     have hlast:l1<k+1->q=0:=fun h=>by
      have h1:=hz0 (by omega);have h2:=hxy0 (hy0 (by omega));omega
     have HLA:=ae hlast;have hr9:r<4294967296:=by omega
     have es:(xz:Int)+(c:Int)=(s:Int):=by omega
     have e6:(s:Int) / 4294967296=(q:Int):=by omega
     have hkn2:(k:Int)<(l2:Int):=by omega
     have e5:IntKind.u32.wrap (s:Int)=(r:Int):=by rw [IntKind.wrap_u32];omega
     rw [<-HU.out] at hst;have hu9:u<549755813889:=by omega
     have ww1:IntKind.i64.wrap (u:Int)=(u:Int):=by rw [IntKind.wrap_i64];omega
     have ww2:IntKind.u64.wrap (xy:Int)=(xy:Int):=by rw [IntKind.wrap_u64];omega
     have ww3:IntKind.u64.wrap (xz:Int)=(xz:Int):=by rw [IntKind.wrap_u64];omega
     have ww4:IntKind.u64.wrap (s:Int)=(s:Int):=by rw [IntKind.wrap_u64];omega
     have hst':=((af.refl wr).drew).cell hst;clear hu hik hikp hs hr hq HST hxy hpp hl2 hxy0 hlast hz0 hy0 hxz;go_wp2_with fail;go_region_with ((go_at_call 226;refine (HY.out _ (by first | exact af.refl _ | exact (af.refl _).drew)).mono ?_;rintro e w2 ⟨rfl,rfl⟩))
     all_goals
      go_wp2;go_roundg (l2 - (k+1))
      case measure=>omega
      case rel=>exact ⟨k+1,q,L'.set (i+k) r,rfl,by go_num,by omega,Nat.le_refl _,hs3,ae (by have h:=bi (HR2.out.kept (af.refl _).drew) u r;rw [HU.out] at h⊢;exact h),ae ⟨by rw [List.length_set];exact HL2'.out.1,HL2'.out.2.set _ r hr9⟩,ae ⟨HSS.out,fun q' h1 h2=>by rw [cV (by omega)];exact HI2.out.2.1 q' h1 (by omega),HLA.out⟩,ae ((HK2.out.trans (af.refl _).drew).store (Nat.le_refl _) _ _)⟩
    ·have hke:k=l2:=by omega
     have HNX:Hid (nv L'=nv (xs.take (i+1))*nv ys):=ae (by
      have h:=HI2.out.1;rw [HI2.out.2.2 (by have:=HL2.out;omega),Nat.zero_mul,Nat.add_zero,aC ys k (by have:=HL2.out;have:=H1.out;omega),HI.out.1] at h;rw [h,ap,Nat.add_mul,HX.out,Nat.mul_assoc (xs.getD i 0),Nat.mul_comm (nv ys)])
     have HKE:=ae hke;clear hke;go_wp2;go_roundg (l0 - (i+1))
     case measure=>omega
     case rel=>exact ⟨i+1,L',by go_num,by omega,Nat.le_refl _,HR2,HL2',ae ⟨HNX.out,fun q hq=>HI2.out.2.1 q (by omega) (by have:=HKE.out;have:=HL2.out;omega)⟩,HK2⟩
  ·have hie:i=l0:=by omega
   have HV:Hid (nv L=nv xs*nv ys):=ae (by have:=HI.out.1;rw [hie,H0.out,aC _ _ (Nat.le_refl _)] at this;exact this)
   have HT:Hid (Calls Tryz.prog 227 #[.slice (some ⟨w.heap.size,0,none⟩) p p] wo fun e w'=>(∃ v',e=.returned v'/\bf w' wo.heap.size v' (nw (nv L)))/\af wo w'):=ae (by
    have h:=eN HR.out (c:=p) (by rw [HL.out.1];exact Nat.le_refl _) (by rw [HL.out.1];omega) HL.out.2;rw [HL.out.1] at h;exact df _ _ _ h)
   clear hie;go_wp2_with fail;refine HT.out.mono ?_;rintro e w2 ⟨⟨v2,rfl,hv2⟩,hk2⟩;have HV2:=ae hv2;have HK2:=ae (HK.out.trans hk2);clear hv2 hk2;go_wp2;go_ret;exact ⟨⟨_,rfl,by rw [<-HV.out];exact HV2.out.at⟩,HK2.out⟩
theorem sV (a b:Nat) (ha:a<4294967296) (hb:b<4294967296):bits .and .u32 (a:Int) (b:Int)=((a &&& b:Nat):Int):=by
 have h:(BitVec.ofInt 32 (a:Int) &&& BitVec.ofInt 32 (b:Int)).toNat=a &&& b:=by rw [BitVec.toNat_and,em a ha,em b hb]
 show IntKind.u32.wrap (((BitVec.ofInt 32 (a:Int) &&& BitVec.ofInt 32 (b:Int)).toNat:Nat):Int)=_;rw [h,IntKind.wrap_u32];have:=Nat.and_le_left (n:=a) (m:=b);omega
def BL (n v:Nat):Prop:=v<2^n/\(n=0\/2^(n - 1)<=v)
theorem BL.zero:BL 0 0:=⟨by simp,.inl rfl⟩
theorem BL.iff0 {n v:Nat} (h:BL n v):n=0 ↔ v=0:=by
 constructor
 ·intro e;subst e;have:=h.1;simpa using this
 ·intro e;subst e;rcases h.2 with h2 | h2
  ·exact h2
  ·have:=Nat.two_pow_pos (n - 1);omega
theorem BL.iff1 {n v:Nat} (h:BL n v):n=1 ↔ v=1:=by
 constructor
 ·intro e;subst e;have h1:=h.1;rcases h.2 with h2 | h2
  ·omega
  ·simp at h1 h2;omega
 ·intro e;subst e;have h0:n≠0:=fun e=>by have:=h.iff0.1 e;omega
  rcases Nat.lt_or_ge 1 n with h1 | h1
  ·exfalso
   rcases h.2 with h2 | h2
   ·exact h0 h2
   ·have:2^1<=2^(n - 1):=Nat.pow_le_pow_right (by omega) (by omega)
    omega
  ·omega
theorem BL.step {n v p:Nat} {b:Nat} (h:BL n v) (hb:b=0\/b=1) (hv:v<2^p):BL (if b=1 then p+1 else n) (v+b*2^p):=by
 rcases hb with rfl | rfl
 ·simpa using h
 ·rw [if_pos rfl];refine ⟨by rw [Nat.pow_succ];omega,.inr (by rw [Nat.add_sub_cancel];omega)⟩
theorem oV (x k:Nat):x % 2^(k+1)=x % 2^k+(x / 2^k % 2)*2^k:=by
 rw [Nat.pow_succ,Nat.mod_mul,Nat.mul_comm (2^k)]
theorem gE (va:Value) (xs:List Nat) (w:World) (ha:ah w va xs) :
  Calls Tryz.prog 180 #[va] w fun e w'=>(∃ k:Nat,e=.returned (.int .i64 k)/\BL k (nv xs))/\w'=w:=by
 have HA:=ae ha;obtain ⟨a0,c0,rfl⟩:=ha.shape;obtain ⟨n,hn⟩:∃ n,n=xs.length:=⟨_,rfl⟩;have hn9:n<=1099511627776:=by rw [hn];exact ha.len
 rw [<-hn] at HA⊢;have HN:=ae hn;clear ha hn;go_enter Tryz.func180,Tryz.ntmps180;go_wp2_with fail;go_loopg [3,9] n (fun kx s3 s9 wr=>∃ i z:Nat,s3=.int .i64 z/\s9=.int .i64 i/\i<=n/\n - i<=kx/\z<=32*i/\Hid (BL z (nv (xs.take i)))/\w=wr)
 case atStart=>exact ⟨0,0,rfl,rfl,Nat.zero_le _,by omega,by omega,ae (by simpa [cz] using BL.zero),rfl⟩
 case round =>
  obtain ⟨i,z,rfl,rfl,hi,hkx,hz,HB,rfl⟩:=hrel;by_cases hlt:i<n
  ·obtain ⟨b,o,rfl,hc⟩:=HA.out.get i (by have:=HN.out;omega);have hx9:=HA.out.wd.getD i;obtain ⟨x,hx⟩:∃ x,x=xs.getD i 0:=⟨_,rfl⟩;rw [<-hx] at hc hx9;have HX:=ae hx;have hin:(i:Int)<(n:Int):=by omega
   have HV:Hid (nv (xs.take i)<2^(32*i)):=ae (by
    have h:=dl (HA.out.wd.take i);rw [List.length_take,Nat.min_eq_left (by have:=HN.out;omega),show (4294967296:Nat)=2^32 by rfl,<-Nat.pow_mul] at h;exact h)
   clear hx;go_wp2_with fail;go_loopg [3,14] 32 (fun kx s3 s14 wq=>∃ k y:Nat,s3=.int .i64 y/\s14=.int .i64 k/\k<=32/\32 - k<=kx/\y<=32*i+k/\Hid (BL y (nv (xs.take i)+(x % 2^k)*2^(32*i)))/\w=wq)
   case atStart=>exact ⟨0,z,rfl,rfl,by omega,by omega,by omega,ae (by rw [Nat.pow_zero,Nat.mod_one,Nat.zero_mul,Nat.add_zero];exact HB.out),rfl⟩
   case round =>
    obtain ⟨k,y,rfl,rfl,hk,hkx2,hy,HY,rfl⟩:=hrel;by_cases hlt2:k<32
    ·obtain ⟨u,hu⟩:∃ u,u=x / 2^k:=⟨_,rfl⟩;have hu9:u<4294967296:=by have:=Nat.div_le_self x (2^k);omega
     obtain ⟨d,hd⟩:∃ d,d=u % 2:=⟨_,rfl⟩;have eu:(x:Int) / 2^k=(u:Int):=by rw [hu];simp
     have ed:bits .and .u32 (u:Int) 1=(d:Int):=by
      have h:=sV u 1 hu9 (by omega);rw [Nat.and_one_is_mod,<-hd] at h;simpa using h
     have HNX:Hid (BL (if d=1 then 32*i+k+1 else y) (nv (xs.take i)+(x % 2^(k+1))*2^(32*i))):=ae (by
      have hv:nv (xs.take i)+(x % 2^k)*2^(32*i)<2^(32*i+k):=by
       have h1:(x % 2^k+1)*2^(32*i)<=2^k*2^(32*i):=Nat.mul_le_mul_right _ (Nat.mod_lt _ (Nat.two_pow_pos k));rw [<-Nat.pow_add,Nat.add_comm k,Nat.add_mul,Nat.one_mul] at h1;have:=HV.out;omega
      have h:=HY.out.step (b:=d) (by omega) hv;rw [oV,<-hu,<-hd,Nat.add_mul,Nat.mul_assoc d,<-Nat.pow_add,Nat.add_comm k,<-Nat.add_assoc];exact h)
     have hk32:(k:Int)<32:=by omega
     have hk0:¬ (k:Int)<0:=by omega
     rcases (by omega:d=0\/d=1) with h | h
     ·subst h;clear hu hd;go_wp2_with fail;go_roundg (32 - (k+1))
      case measure=>omega
      case rel=>exact ⟨k+1,y,rfl,by go_num,by omega,Nat.le_refl _,by omega,ae (by simpa using HNX.out),rfl⟩
     ·subst h;obtain ⟨t,ht⟩:∃ t,t=32*i:=⟨_,rfl⟩;have et:32*(i:Int)=(t:Int):=by omega
      have ht9:t<=35184372088832:=by omega
      obtain ⟨t1,ht1⟩:∃ t1,t1=t+k:=⟨_,rfl⟩;have et1:(t:Int)+(k:Int)=(t1:Int):=by omega
      obtain ⟨t2,ht2⟩:∃ t2,t2=t1+1:=⟨_,rfl⟩;have et2:(t1:Int)+1=(t2:Int):=by omega
      have ht19:t1<=35184372088864:=by omega
      have ht29:t2<=35184372088865:=by omega
      have HT2:Hid (t2=32*i+k+1):=ae (by omega);clear hu hd ht ht1 ht2;go_wp2_with fail;go_roundg (32 - (k+1))
      case measure=>omega
      case rel=>exact ⟨k+1,t2,rfl,by go_num,by omega,Nat.le_refl _,by have:=HT2.out;omega,ae (by have h:=HNX.out;simp only [if_true] at h;rw [<-HT2.out] at h;exact h),rfl⟩
    ·have hke:k=32:=by omega
     have HNX:Hid (BL y (nv (xs.take (i+1)))):=ae (by
      have h:=HY.out;rw [hke,show (2:Nat)^32=4294967296 by rfl,Nat.mod_eq_of_lt hx9,HX.out] at h;rw [ap,show (4294967296:Nat)=2^32 by rfl,<-Nat.pow_mul];exact h)
     have hy2:y<=32*(i+1):=by omega
     clear hke;go_wp2_with fail;go_roundg (n - (i+1))
     case measure=>omega
     case rel=>exact ⟨i+1,y,rfl,by go_num,by omega,Nat.le_refl _,hy2,HNX,rfl⟩
  ·have hie:i=n:=by omega
   have HF:Hid (BL z (nv xs)):=ae (by have h:=HB.out;rw [hie,HN.out,aC _ _ (Nat.le_refl _)] at h;exact h);clear hie;go_wp2_with fail;go_ret;exact ⟨⟨z,rfl,HF.out⟩,rfl⟩
theorem xb {c x s:Nat} (hc:c<2^s):(c ||| x*2^s)=c+x*2^s:=by
 rw [Nat.or_comm,Nat.mul_comm,<-Nat.two_pow_add_eq_or_of_lt hc];omega
theorem nu (va:Value) (xs:List Nat) (s:Nat) (w:World) (ha:ah w va xs) (hs:s<32) (hla:xs.length<=549755813888) :
  Calls Tryz.prog 258 #[va,.int .i64 s] w fun e w'=>(∃ v',e=.returned v'/\ah w' v' (nw (nv xs*2^s)))/\af w w':=by
 have HA:=ae ha;obtain ⟨a0,c0,rfl⟩:=ha.shape;obtain ⟨l0,h0⟩:∃ l0,l0=xs.length:=⟨_,rfl⟩;rw [<-h0] at HA hla⊢;have H0:=ae h0;have hs0:¬ (s:Int)<0:=by omega
 clear ha h0;go_enter Tryz.func258,Tryz.ntmps258;go_wp2_with fail;go_loopg [5,6,11] l0 (fun kx s5 s6 s11 wr=>∃ (i c:Nat) (L:List Nat),s6=.int .u64 c/\s11=.int .i64 i/\i<=l0/\l0 - i<=kx/\c<4294967296/\Hid (c<2^s)/\Hid (bf wr w.heap.size s5 L)/\Hid (L.length=i)/\Hid (nv L+c*4294967296^i=nv (xs.take i)*2^s)/\Hid (af w wr))
 case atStart=>exact ⟨0,0,[],rfl,rfl,Nat.zero_le _,by omega,by omega,ae (Nat.two_pow_pos s),ae (bf.nil _ _),ae rfl,ae (by simp [cz]),ae (af.refl _)⟩
 case round =>
  obtain ⟨i,c,L,rfl,rfl,hi,hkx,hc,HC,HO,HL,HI,HK⟩:=hrel;have hi9:i<1099511627776:=by omega
  have HI9:Hid (L.length<1099511627776):=ae (by rw [HL.out];exact hi9);have HSZ:=ae HK.out.size;by_cases hlt:i<l0
  ·obtain ⟨b,o,rfl,hcx⟩:=(HA.out.kept HK.out).get i (by have:=H0.out;omega);have hx:=HA.out.wd.getD i;obtain ⟨x,hxx⟩:∃ x,x=xs.getD i 0:=⟨_,rfl⟩;rw [<-hxx] at hcx hx;obtain ⟨y,hy⟩:∃ y,y=x*2^s:=⟨_,rfl⟩;have hy9:y<18446744073709551616:=by rw [hy];exact xP x s hx hs
   have ey:(x:Int)*2^s=(y:Int):=by rw [hy];simp
   obtain ⟨t,ht⟩:∃ t,t=c+y:=⟨_,rfl⟩
   have eo:bits .or .u64 (c:Int) (y:Int)=(t:Int):=by
    have h:=lN c y (by omega) hy9;rw [hy,xb HC.out,<-hy,<-ht] at h;exact h
   have htt:t<2^s*4294967296:=by
    have h1:(x+1)*2^s<=4294967296*2^s:=Nat.mul_le_mul_right _ hx;rw [Nat.add_mul,Nat.one_mul,Nat.mul_comm 4294967296] at h1;have:=HC.out;omega
   have ht9:t<18446744073709551616:=by
    have h2:2^s<=2^31:=Nat.pow_le_pow_right (by omega) (by omega);have h3:2^s*4294967296<=2^31*4294967296:=Nat.mul_le_mul_right _ h2;omega
   obtain ⟨r,hr⟩:∃ r,r=t % 4294967296:=⟨_,rfl⟩;obtain ⟨q,hq⟩:∃ q,q=t / 4294967296:=⟨_,rfl⟩;have hr9:r<4294967296:=by omega
   have hq9:q<4294967296:=by omega
   have HQ:Hid (q<2^s):=ae (by rw [hq];exact Nat.div_lt_of_lt_mul (by rw [Nat.mul_comm];exact htt));have e6:(t:Int) / 4294967296=(q:Int):=by omega
   have e5:IntKind.u32.wrap (t:Int)=(r:Int):=by rw [IntKind.wrap_u32];omega
   have HNX:Hid (nv (L++[r])+q*4294967296^(i+1)=nv (xs.take (i+1))*2^s):=ae (by
    have h1:=eU t (4294967296^i);rw [<-hr,<-hq] at h1;have h2:=HI.out;rw [jn HL.out,ap,<-hxx,Nat.add_mul,<-h2,Nat.pow_succ,Nat.mul_comm (4294967296^i) 4294967296,Nat.add_assoc,h1,ht,Nat.add_mul,hy,Nat.mul_assoc x,Nat.mul_comm (2^s),<-Nat.mul_assoc];omega)
   have hin:(i:Int)<(l0:Int):=by omega
   clear hxx hy ht htt hr hq;go_wp2_with (at_builtin;refine iu rfl _ _ rfl w.heap.size _ L rfl (HO.out.kept ((af.refl _).alloc _)) _ r rfl (by simp) hr9 HI9.out (by have:=HSZ.out;simp;omega) ?_;intro v7 w7 h7 hb7;have O7:=ae h7;have HB7:=ae hb7;clear h7 hb7);go_roundg (l0 - (i+1))
   case measure=>omega
   case rel=>exact ⟨i+1,q,L++[r],rfl,by go_num,by omega,Nat.le_refl _,hq9,HQ,O7,ae (by rw [List.length_append,HL.out];rfl),HNX,ae ((HK.out.alloc _).app HB7.out)⟩
  ·have hie:i=l0:=by omega
   have HV:Hid (nv (L++[c])=nv xs*2^s):=ae (by
    have h:=HI.out;rw [jn HL.out,h,hie,H0.out,aC _ _ (Nat.le_refl _)])
   have e5:IntKind.u32.wrap (c:Int)=(c:Int):=by rw [IntKind.wrap_u32];omega
   have HT:Hid (∀ W v7,bf W w.heap.size v7 (L++[c])->Calls Tryz.prog 227 #[v7] W fun e w'=>(∃ v',e=.returned v'/\ah w' v' (nw (nv xs*2^s)))/\af W w'):=ae fun W v7 h7=>by
    have h:=df v7 _ W h7.at;rw [HV.out] at h;exact h.mono fun _ _ ⟨⟨v',h1,h2⟩,h3⟩=>⟨⟨v',h1,h2.at⟩,h3⟩
   clear hie
   go_wp2_with (first
    | (at_builtin;refine iu rfl _ _ rfl w.heap.size _ L rfl (HO.out.kept ((af.refl _).alloc _)) _ c rfl (by simp) hc HI9.out (by have:=HSZ.out;simp;omega) ?_;intro v7 w7 h7 hb7;have O7:=ae h7;have HB7:=ae hb7;clear h7 hb7)
    | (go_at_call 227;(with_reducible refine (HT.out _ _ O7.out).mono ?_);rintro e w8 ⟨⟨v8,rfl,hv8⟩,hk8⟩;have HV8:=ae hv8;have HK8:=ae hk8;clear hv8 hk8))
   go_ret;exact ⟨⟨_,rfl,HV8.out⟩,((HK.out.alloc _).app HB7.out).trans HK8.out⟩
theorem qs (va:Value) (xs:List Nat) (n:Nat) (w:World) (ha:ah w va xs) (hn:n<32) :
  Calls Tryz.prog 259 #[va,.int .i64 n] w fun e w'=>(∃ v',e=.returned v'/\ah w' v' (nw (nv xs / 2^n)))/\af w w':=by
 have HW:=ae (fun W (hk:af w W) (i:Nat)=>cC va xs i W (ha.kept hk));have HA:=ae ha;obtain ⟨a0,c0,rfl⟩:=ha.shape;obtain ⟨l0,h0⟩:∃ l0,l0=xs.length:=⟨_,rfl⟩;have hl9:l0<=1099511627776:=by rw [h0];exact ha.len
 rw [<-h0] at HW⊢;have H0:=ae h0;have hn0:¬ (n:Int)<0:=by omega
 clear ha h0;go_enter Tryz.func259,Tryz.ntmps259;go_wp2_with fail;go_loopg [5,9] l0 (fun kx s5 s9 wr=>∃ (i:Nat) (L:List Nat),s9=.int .i64 i/\i<=l0/\l0 - i<=kx/\Hid (bf wr w.heap.size s5 L)/\Hid (L.length=i)/\Hid (nv L=nv xs / 2^n % 4294967296^i)/\Hid (af w wr))
 case atStart=>exact ⟨0,[],rfl,Nat.zero_le _,by omega,ae (bf.nil _ _),ae rfl,ae (by simp [cz,Nat.mod_one]),ae (af.refl _)⟩
 case round =>
  obtain ⟨i,L,rfl,hi,hkx,HO,HL,HI,HK⟩:=hrel;by_cases hlt:i<l0
  ·obtain ⟨t,u,h1,h2,h3,h4,h5⟩:=lW hn (by have:=H0.out;omega:i<xs.length) HA.out.wd;have hx:=HA.out.wd.getD i;have hx1:=HA.out.wd.getD (i+1);have HX:=ae (HW.out wr HK.out i);have HX1:=ae (HW.out wr HK.out (i+1));generalize xs.getD i 0=x at *;generalize xs.getD (i+1) 0=x1 at *;obtain ⟨r,hr⟩:∃ r,r=u % 4294967296:=⟨_,rfl⟩;have hr9:r<4294967296:=by omega
   have e5:IntKind.u32.wrap (u:Int)=(r:Int):=by rw [IntKind.wrap_u32];omega
   have HS:Hid (nv (L++[r])=nv xs / 2^n % 4294967296^(i+1)):=ae (by rw [jn HL.out,HI.out,hr,h5,jk]);have hkn:(i:Int)<(l0:Int):=by omega
   have HI9:Hid (L.length<1099511627776):=ae (by rw [HL.out];omega);have HSZ:=ae HK.out.size;clear h5 hr
   go_wp2_with (first
    | (go_at_call 226;(with_reducible refine HX.out.mono ?_);rintro e w2 ⟨rfl,rfl⟩)
    | (go_at_call 226;refine HX1.out.mono ?_;rintro e w2 ⟨rfl,rfl⟩)
    | (at_builtin;refine iu rfl _ _ rfl w.heap.size _ L rfl (HO.out.kept ((af.refl _).alloc _)) _ r rfl (by simp) hr9 HI9.out (by have:=HSZ.out;simp;omega) ?_;intro v7 w7 h7 hb7;have O7:=ae h7;have HB7:=ae hb7;clear h7 hb7))
   go_roundg (l0 - (i+1))
   case measure=>omega
   case rel=>exact ⟨i+1,L++[r],by go_num,by omega,Nat.le_refl _,O7,ae (by rw [List.length_append,HL.out];rfl),HS,ae ((HK.out.alloc _).app HB7.out)⟩
  ·have hie:i=l0:=by omega
   have HV:Hid (nv L=nv xs / 2^n):=ae (by
    rw [HI.out];refine Nat.mod_eq_of_lt (Nat.lt_of_le_of_lt (Nat.div_le_self _ _) ?_);rw [hie,H0.out];exact dl HA.out.wd)
   have HT:=ae (df _ _ _ HO.out.at);clear hie;go_wp2_with fail;refine HT.out.mono ?_;rintro e w2 ⟨⟨v2,rfl,hv2⟩,hk2⟩;have HV2:=ae hv2;have HK2:=ae (HK.out.trans hk2);clear hv2 hk2;go_wp2;go_ret;exact ⟨⟨_,rfl,by rw [<-HV.out];exact HV2.out.at⟩,HK2.out⟩
theorem tz (y:Nat) (hy:y<4294967296):(y &&& 2^31)=if 2147483648<=y then 2147483648 else 0:=by
 have hb:y.testBit 31=decide (2147483648<=y):=by
  rw [Nat.testBit_eq_decide_div_mod_eq,show (2:Nat)^31=2147483648 by rfl];exact decide_eq_decide.2 (by omega)
 by_cases h:2147483648<=y
 ·rw [if_pos h,show (2147483648:Nat)=2^31 by rfl];refine Nat.eq_of_testBit_eq fun i=>?_
  rw [Nat.testBit_and,Nat.testBit_two_pow];by_cases e:31=i
  ·subst e;rw [hb];simp [h]
  ·simp [e]
 ·rw [if_neg h];refine Nat.eq_of_testBit_eq fun i=>?_
  rw [Nat.testBit_and,Nat.testBit_two_pow,Nat.zero_testBit];by_cases e:31=i
  ·subst e;rw [hb];simp [h]
  ·simp [e]
theorem sU (y:Nat) (hy:y<4294967296):bits .and .u32 (y:Int) 2147483648=if 2147483648<=y then 2147483648 else 0:=by
 have h:=sV y (2^31) hy (by omega);rw [tz y hy] at h;by_cases h2:2147483648<=y
 ·rw [if_pos h2] at h⊢;simpa using h
 ·rw [if_neg h2] at h⊢;simpa using h
theorem uD {B s m x N:Nat} (hl:(nw B).length=m+1) (hx:x=(nw B).getD m 0) (hs:s<32) (h1:2147483648<=x*2^s) (h2:x*2^s<4294967296) (hN:N=B*2^s):(nw N).length=m+1/\2147483648<=(nw N).getD m 0/\N<4294967296^(m+1):=by
 obtain ⟨_,h3,h4⟩:=eZ (dN B) (m:=m) hl;rw [am,<-hx] at h3 h4
 have h5:(x+1)*2^s<=4294967296:=by
  have e:(4294967296:Nat)=2^(32 - s)*2^s:=by rw [<-Nat.pow_add,show 32 - s+s=32 by omega]
  rw [e] at h2⊢;exact Nat.mul_le_mul_right _ (Nat.lt_of_mul_lt_mul_right h2)
 have hlt:N<4294967296^(m+1):=by
  have h6:B*2^s<(x+1)*4294967296^m*2^s:=(Nat.mul_lt_mul_right (Nat.two_pow_pos _)).2 h4;have h7:(x+1)*4294967296^m*2^s=(x+1)*2^s*4294967296^m:=by rw [Nat.mul_assoc,Nat.mul_comm (4294967296^m),<-Nat.mul_assoc]
  have h8:(x+1)*2^s*4294967296^m<=4294967296*4294967296^m:=Nat.mul_le_mul_right _ h5;rw [Nat.pow_succ,Nat.mul_comm (4294967296^m),hN];omega
 have hge:2147483648*4294967296^m<=N:=by
  have h6:x*2^s*4294967296^m<=N:=by
   rw [hN,Nat.mul_assoc,Nat.mul_comm (2^s),<-Nat.mul_assoc];exact Nat.mul_le_mul_right _ h3
  exact Nat.le_trans (Nat.mul_le_mul_right _ h1) h6
 have hlen:(nw N).length=m+1:=by
  have h6:=aL.2 hlt;rcases Nat.lt_or_ge m (nw N).length with h7 | h7
  ·omega
  ·have h8:=aL.1 h7
   have:1*4294967296^m<=2147483648*4294967296^m:=Nat.mul_le_mul_right _ (by omega)
   omega
 refine ⟨hlen,?_,hlt⟩;obtain ⟨_,_,h6⟩:=eZ (dN N) (m:=m) hlen;rw [am] at h6;have:=Nat.lt_of_mul_lt_mul_right (Nat.lt_of_le_of_lt hge h6);omega
theorem uN {N X m head:Nat} (hN:(nw N).length=m+1) (ht:2147483648<=(nw N).getD m 0) (hX:X<N*4294967296) (hh:head=(nw X).getD (m+1) 0*4294967296+(nw X).getD m 0):X / N<=min (head / (nw N).getD m 0) 4294967295:=by
 have hlt:=aL.1 (Nat.le_of_eq hN)
 have hXl:X<4294967296^(m+2):=by
  rw [Nat.pow_succ];exact Nat.lt_of_lt_of_le hX (Nat.mul_le_mul_right _ (Nat.le_of_lt hlt))
 have hl:=aL.2 hXl;refine Nat.le_min.2 ⟨?_,?_⟩
 ·obtain ⟨_,h3,_⟩:=eZ (dN N) (m:=m) hN;rw [am] at h3;refine pu h3 ?_ (by omega);have h4:=ap (nw X) m;have h5:=ap (nw X) (m+1);rw [aC (nw X) (m+1+1) (by omega),am] at h5;have h6:nv ((nw X).take m)<4294967296^m:=by have:=sx (dN X) 0 m;simpa using this
  rw [h4] at h5;generalize (nw X).getD (m+1) 0=p at *;generalize (nw X).getD m 0=q at *;generalize nv ((nw X).take m)=t at *;have h7:p*4294967296^(m+1)=p*4294967296*4294967296^m:=by rw [Nat.pow_succ,Nat.mul_comm (4294967296^m),<-Nat.mul_assoc]
  rw [hh,Nat.add_mul,Nat.add_mul,Nat.one_mul];omega
 ·have:X / N<4294967296:=Nat.div_lt_of_lt_mul hX
  omega
theorem xe (w:World) (B x:Nat) (hx:x<4294967296) (hB:B<=w.heap.size):bf (w.alloc (.cells #[.int .u32 (x:Int)] 70)) B (.slice (some ⟨w.heap.size,0,none⟩) 1 1) [x] :=
 ⟨⟨by simp,.inr ⟨w.heap.size,1,#[.int .u32 (x:Int)],rfl,hB,heap_alloc_new w _,Nat.le_refl _,by unfold maxLen;omega,by simp,by simp [fp]⟩⟩,by simp,Wd.cons hx Wd.nil⟩
theorem xA {Aw Q:List Nat} {N R j g X:Nat} (h:nv (Aw.drop (j+1))=N*nv (Q.drop (j+1))+R) (hj:j<Aw.length) (hq:j<Q.length) (hX:X=Aw.getD j 0+4294967296*R) (hg:g=X / N):nv (Aw.drop j)=N*nv ((Q.set j g).drop j)+X % N:=by
 rw [aS hj,aS (l:=Q.set j g) (by rw [List.length_set];exact hq),ek hq,List.drop_set_of_lt (by omega),hg];exact mZ h X hX
theorem xx {N X g:Nat} (hN:0<N) (hge:X / N<=g) (hm:X<N*g):∃ g',g=g'+1/\X / N<=g'/\N*g - N=N*g'/\N<=N*g:=by
 have h1:X / N<g:=by rw [Nat.div_lt_iff_lt_mul hN,Nat.mul_comm];exact hm
 have h0:0<g:=Nat.lt_of_le_of_lt (Nat.zero_le _) h1;obtain ⟨g',rfl⟩:∃ g',g=g'+1:=⟨g - 1,(Nat.sub_add_cancel h0).symm⟩;refine ⟨g',rfl,Nat.le_of_lt_succ h1,?_,?_⟩
 ·rw [Nat.mul_add,Nat.mul_one,Nat.add_sub_cancel]
 ·rw [Nat.mul_add,Nat.mul_one];omega
theorem xv {N X g:Nat} (hN:0<N) (hge:X / N<=g) (hm:N*g<=X):g=X / N/\X - N*g=X % N:=by
 have h1:g<=X / N:=by rw [Nat.le_div_iff_mul_le hN,Nat.mul_comm];exact hm
 have h2:g=X / N:=Nat.le_antisymm h1 hge;refine ⟨h2,?_⟩;have h3:=Nat.div_add_mod X N;rw [h2];generalize N*(X / N)=z at *;omega
theorem uO {Aw:List Nat} {N m:Nat} (hw:Wd Aw) (hN:(nw N).length=m+1):nv (Aw.drop (Aw.length+1 - (m+1)))<N:=by
 have h1:=dl (hw.drop (Aw.length+1 - (m+1)));have h2:4294967296^(Aw.drop (Aw.length+1 - (m+1))).length<=4294967296^m:=Nat.pow_le_pow_right (by omega) (by rw [List.length_drop];omega);have h3:¬ N<4294967296^m:=fun h=>by have:=aL.2 h;omega
 omega
end Go.Proofs.YtofibjflkebkpaaGreatDoor
