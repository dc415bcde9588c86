import Derived.WalkKit
import Derived.WalkSpells
import Derived.WalkLawsBesides
import Derived.Deep.QuietTactic
import Derived.BigQuiet
import Derived.Lib.Hide
import Derived.Shelf.Abstract
import Derived.Deep.RegionWith
import Derived.Laws.AppendOwnNone
import Derived.Lib.AppendZerosOnto
import Derived.Lib.SliceRun
import Derived.Lib.SlicesCompact
import Derived.Shelf.SlSortCmp.NoneTotal
import Derived.Maps.OwnOps
import Derived.Maps.OwnSet
import Derived.Maps.Views
import Derived.Deep.MidRow
import Derived.Deep.RegionHeld3
import Derived.Deep.AppendLies
import Derived.Deep.RegionLaw
import Derived.IntWalk
import Derived.StillTailTactics
import Derived.RegionTactic
import Derived.BigRegion
import Derived.ChangeAlike
import Derived.Sort.LotD2
import Derived.Sort.LotA
import Derived.Shelf.SlSortCmp.PdqK
import Derived.Deep.DeepCutAuto
import Derived.Lib.ItoaNum
import Derived.Deep.LoopGhost
import Derived.ProofKit
import Derived.OpenShut
import Derived.SizedLaws
import Derived.Lib.SmallJoins
import Derived.Deep.Slices
import Derived.Deep.Fields
import Derived.Deep.Strs
import Derived.Carry
import Derived.Test.YtofibjflkebkpaaGreatDoorEG4
import Derived.Test.YtofibjflkebkpaaGreatDoorEG2
import Derived.Lib.BitFns
import Derived.Deep.CutBlock
set_option maxRecDepth 100000
set_option maxHeartbeats 16000000
namespace Go.Proofs.YtofibjflkebkpaaGreatDoor
open Go.RowKit
theorem qm {L ys:List Nat} {c M x i k s:Nat} (h:nv L+c*4294967296^(i+k)=M+x*(nv (ys.take k)*4294967296^i)) (hL:i+k<L.length) (hs:s=c+x*ys.getD k 0+L.getD (i+k) 0) :
  nv (L.set (i+k) (s % 4294967296))+(s / 4294967296)*4294967296^(i+(k+1))=M+x*(nv (ys.take (k+1))*4294967296^i):=by
 have h1:=Be h hs _ (rp L (i+k) (s % 4294967296) hL)
 have h2:nv (ys.take (k+1))*4294967296^i=nv (ys.take k)*4294967296^i+ys.getD k 0*4294967296^(i+k):=by
  rw [aq,Nat.add_mul,Nat.mul_assoc,<-Nat.pow_add,Nat.add_comm k i]
 rw [h2,<-h1,<-Nat.add_assoc,Nat.pow_succ,Nat.mul_comm (4294967296^(i+k)) 4294967296]
theorem Dq {L xs ys:List Nat} {c i:Nat} {N:Nat} (h:nv L+c*4294967296^(i+ys.length)=N+xs.getD i 0*(nv (ys.take ys.length)*4294967296^i)) (hN:N=nv (xs.take i)*nv ys) (hL:i+ys.length<L.length) (h0:L.getD (i+ys.length) 0=0) :
  nv (L.set (i+ys.length) c)=nv (xs.take (i+1))*nv ys:=by
 have h1:=rp L (i+ys.length) c hL;rw [h0,Nat.zero_mul,Nat.add_zero] at h1;rw [h1,h,ar ys _ (Nat.le_refl _),hN,aq,Nat.add_mul,Nat.mul_assoc (xs.getD i 0),Nat.mul_comm (nv ys)]
theorem mr {c x y w:Nat} (hc:c<4294967296) (hx:x<4294967296) (hy:y<4294967296) (hw:w<4294967296):c+x*y+w<18446744073709551616/\x*y<=18446744065119617025/\(c+x*y+w) / 4294967296<4294967296:=by
 have h1:=yB hc hx hy hw;refine ⟨h1,Nat.mul_le_mul (show x<=4294967295 by omega) (show y<=4294967295 by omega),Nat.div_lt_of_lt_mul (by omega)⟩
theorem tP {L:List Nat} {j p x:Nat} (h:∀ q,p<=q->L.getD q 0=0) (hj:j<p):∀ q,p<=q->(L.set j x).getD q 0=0:=fun q hq=>by rw [c_ (by omega)];exact h q hq
theorem dd (va vb:Value) (xs ys:List Nat) (w:World) (ha:WdsAt w va xs) (hb:WdsAt w vb ys) (hla:xs.length<=274877906944) (hlb:ys.length<=274877906944) :
  Calls Tryz.prog 156 #[va,vb] w fun e w'=>(∃ v',e=.returned v'/\WdsAt w' v' (nw (nv xs*nv ys)))/\af w w':=by
 have HA:=ae ha;have HB:=ae hb;obtain ⟨a0,c0,rfl⟩:=ha.shape;obtain ⟨a1,c1,rfl⟩:=hb.shape;obtain ⟨l0,h0⟩:∃ l0,l0=xs.length:=⟨_,rfl⟩;obtain ⟨l1,h1⟩:∃ l1,l1=ys.length:=⟨_,rfl⟩;rw [<-h0] at HA hla⊢;rw [<-h1] at HB hlb⊢;have H0:=ae h0;have H1:=ae h1;obtain ⟨p,hp⟩:∃ p,p=l0+l1:=⟨_,rfl⟩;have e1:(l0:Int)+(l1:Int)=(p:Int):=by omega
 have hp9:p<=549755813888:=by omega
 have HP:Hid (p=l0+l1):=ae hp;clear ha hb h0 h1 hp;go_enter Tryz.func156,Tryz.ntmps156;go_wp2_with (refine db 27 70 (.int .u32 0) 4 cM Tryz.underlying27 rfl rfl _ _ rfl p rfl rfl (by omega) (by unfold maxLen;omega) ?_;intro w1 hr1 hk1);have HR1:=ae (da hr1);have HK1:=ae hk1;clear hr1 hk1;go_loopg [19] l0 (fun kx s19 wr=>∃ (i:Nat) (L:List Nat),s19=.int .i64 i/\i<=l0/\l0 - i<=kx/\Hid (ai wr w.heap.size 70 (L.map f'))/\Hid (L.length=p/\Wd L)/\Hid (nv L=nv (xs.take i)*nv ys/\∀ q,i+l1<=q->L.getD q 0=0)/\Hid (af w wr))
 case atStart=>exact ⟨0,List.replicate p 0,rfl,Nat.zero_le _,by omega,HR1,ae ⟨by simp,Wd.zeros _⟩,ae ⟨by rw [lg];simp [ct],fun q _=>by simp [List.getD_eq_getElem?_getD,List.getElem?_replicate];split <;> rfl⟩,HK1⟩
 case round =>
  obtain ⟨wo,rfl⟩:∃ wo:World,wo=wr:=⟨_,rfl⟩;obtain ⟨i,L,rfl,hi,hkx,HR,HL,HI,HK⟩:=hrel;by_cases hlt:i<l0
  ·obtain ⟨b,o,rfl,hcx⟩:=(HA.out.kept HK.out).get i (by have:=H0.out;omega);have hx:=HA.out.wd.getD i;obtain ⟨x,hxx⟩:∃ x,x=xs.getD i 0:=⟨_,rfl⟩;rw [<-hxx] at hcx hx;have HX:=ae hxx;have hkn:(i:Int)<(l0:Int):=by omega
   clear hxx;go_wp2;go_loopg [8,26] l1 (fun kx s8 s26 wq=>∃ (k c:Nat) (L':List Nat),s8=.int .u64 c/\s26=.int .i64 k/\k<=l1/\l1 - k<=kx/\c<4294967296/\Hid (ai wq w.heap.size 70 (L'.map f'))/\Hid (L'.length=p/\Wd L')/\Hid (nv L'+c*4294967296^(i+k)=nv L+x*(nv (ys.take k)*4294967296^i)/\∀ q,i+l1<=q->L'.getD q 0=0)/\Hid (af w wq))
   case atStart=>exact ⟨0,0,L,rfl,rfl,Nat.zero_le _,by omega,by omega,HR,HL,ae ⟨by simp [ct],HI.out.2⟩,HK⟩
   case round =>
    obtain ⟨k,c,L',rfl,rfl,hk,hkx2,hc,HR2,HL2,HI2,HK2⟩:=hrel;by_cases hlt2:k<l1
    ·obtain ⟨b2,o2,rfl,hcy⟩:=(HB.out.kept HK2.out).get k (by have:=H1.out;omega);have hy:=HB.out.wd.getD k;have hpp:=HP.out;have hik:i+k<L'.length:=by have:=HL2.out.1;omega
     have hikp:i+k<p:=by omega
     have f:=HR2.out.free (i+k);have hst:=bk HR2.out (i+k) hik;have hwz:=HL2.out.2.getD (i+k);have HST:Hid (∀ s,s=c+x*ys.getD k 0+L'.getD (i+k) 0->nv (L'.set (i+k) (s % 4294967296))+(s / 4294967296)*4294967296^(i+(k+1))=nv L+x*(nv (ys.take (k+1))*4294967296^i)):=ae fun s hs=>qm HI2.out.1 hik hs
     generalize ys.getD k 0=y at *;generalize L'.getD (i+k) 0=z at *;obtain ⟨hs1,hs2,hs3⟩:=mr hc hx hy hwz;obtain ⟨s,hs⟩:∃ s,s=c+x*y+z:=⟨_,rfl⟩;have HSS:=ae (HST.out s hs);rw [<-hs] at hs1 hs3;obtain ⟨xy,hxy⟩:∃ xy,xy=x*y:=⟨_,rfl⟩;rw [<-hxy] at hs hs2;have exy:(x:Int)*(y:Int)=(xy:Int):=by rw [hxy];simp
     obtain ⟨r,hr⟩:∃ r,r=s % 4294967296:=⟨_,rfl⟩;obtain ⟨q,hq⟩:∃ q,q=s / 4294967296:=⟨_,rfl⟩;rw [<-hr,<-hq] at HSS;rw [<-hq] at hs3;have hr9:r<4294967296:=by omega
     have es:(c:Int)+((xy:Int)+(z:Int))=(s:Int):=by omega
     have e6:(s:Int) / 4294967296=(q:Int):=by omega
     have eik:(i:Int)+(k:Int)=((i+k:Nat):Int):=by omega
     have hkn2:(k:Int)<(l1:Int):=by omega
     have e5:IntKind.u32.wrap (s:Int)=(r:Int):=by rw [IntKind.wrap_u32];omega
     clear hs hr hq HST hxy hpp eik;go_wp2;go_roundg (l1 - (k+1))
     case measure=>omega
     case rel=>exact ⟨k+1,q,L'.set (i+k) r,rfl,by go_num,by omega,Nat.le_refl _,hs3,ae (bj HR2.out (i+k) r),ae ⟨by rw [List.length_set];exact HL2.out.1,HL2.out.2.set _ r hr9⟩,ae ⟨HSS.out,tP HI2.out.2 (by omega)⟩,ae (HK2.out.store (Nat.le_refl _) _ _)⟩
    ·have hke:k=l1:=by omega
     have hpp:=HP.out;have hil:i+l1<L'.length:=by have:=HL2.out.1;omega
     have hilp:i+l1<p:=by omega
     have HNX:Hid (nv (L'.set (i+l1) c)=nv (xs.take (i+1))*nv ys):=ae (by
      have h:=HI2.out.1;rw [hke,HX.out,H1.out] at h;rw [H1.out];exact Dq h HI.out.1 (by rw [<-H1.out];exact hil) (by rw [<-H1.out];exact HI2.out.2 _ (Nat.le_refl _)))
     have f:=HR2.out.free (i+l1);have hst:=bk HR2.out (i+l1) hil;have e5:IntKind.u32.wrap (c:Int)=(c:Int):=by rw [IntKind.wrap_u32];omega
     clear hke hpp;go_wp2;go_roundg (l0 - (i+1))
     case measure=>omega
     case rel=>exact ⟨i+1,L'.set (i+l1) c,by go_num,by omega,Nat.le_refl _,ae (bj HR2.out (i+l1) c),ae ⟨by rw [List.length_set];exact HL2.out.1,HL2.out.2.set _ c hc⟩,ae ⟨HNX.out,tP (fun q hq=>HI2.out.2 q (by omega)) (by omega)⟩,ae (HK2.out.store (Nat.le_refl _) _ _)⟩
  ·have hie:i=l0:=by omega
   have HV:Hid (nv L=nv xs*nv ys):=ae (by have:=HI.out.1;rw [hie,H0.out,ar _ _ (Nat.le_refl _)] at this;exact this)
   have HT:Hid (Calls Tryz.prog 116 #[.slice (some ⟨w.heap.size,0,none⟩) p p] wo fun e w'=>(∃ v',e=.returned v'/\WdsAt w' v' (nw (nv L)))/\af wo w'):=ae (by
    have h:=eW HR.out (c:=p) (by rw [HL.out.1];exact Nat.le_refl _) (by rw [HL.out.1];omega) HL.out.2;rw [HL.out.1] at h;exact bh _ _ _ h)
   clear hie;go_wp2_with (go_at_call 116;refine HT.out.mono ?_;rintro e w2 ⟨⟨v2,rfl,hv2⟩,hk2⟩;have HV2:=ae hv2;clear hv2);obtain ⟨a2,c2,rfl⟩:=HV2.out.shape;go_ret;exact ⟨⟨_,rfl,by rw [<-HV.out];exact HV2.out⟩,HK.out.trans hk2⟩
theorem eD (a:Nat) (h:a<4294967296):(BitVec.ofInt 32 (a:Int)).toNat=a:=by
 rw [BitVec.ofInt_natCast,BitVec.toNat_ofNat];exact Nat.mod_eq_of_lt (by omega)
theorem EI (a b:Nat) (ha:a<4294967296) (hb:b<4294967296):bits .or .u32 (a:Int) (b:Int)=((a ||| b:Nat):Int):=by
 have h:(BitVec.ofInt 32 (a:Int) ||| BitVec.ofInt 32 (b:Int)).toNat=a ||| b:=by rw [BitVec.toNat_or,eD a ha,eD b hb]
 show IntKind.u32.wrap (((BitVec.ofInt 32 (a:Int) ||| BitVec.ofInt 32 (b:Int)).toNat:Nat):Int)=_;rw [h,IntKind.wrap_u32];have:=Nat.or_lt_two_pow (n:=32) (x:=a) (y:=b) (by omega) (by omega);omega
theorem jq (r x:Nat) (hr:r<4294967296) (hx:x<4294967296):bits .or .u64 ((r:Int)*4294967296) (x:Int)=((r*4294967296+x:Nat):Int):=by
 have h:=oI (r*4294967296) x (by omega) (by omega)
 have e:(r*4294967296 ||| x)=r*4294967296+x:=by
  rw [Nat.mul_comm,show (4294967296:Nat)=2^32 by rfl,<-Nat.two_pow_add_eq_or_of_lt (by omega)]
 rw [e] at h;rw [<-h];simp
theorem qH (va:Value) (xs:List Nat) (d:Nat) (w:World) (ha:WdsAt w va xs) (hd0:0<d) (hd:d<4294967296) :
  Calls Tryz.prog 147 #[va,.int .u32 d] w fun e w'=>(∃ v',e=.returned (.tuple #[v',.int .u32 (nv xs % d:Nat)])/\WdsAt w' v' (nw (nv xs / d)))/\af w w':=by
 have HA:=ae ha;obtain ⟨a0,c0,rfl⟩:=ha.shape;obtain ⟨n,hn⟩:∃ n,n=xs.length:=⟨_,rfl⟩;have hn9:n<=1099511627776:=by rw [hn];exact ha.len
 rw [<-hn] at HA⊢;have HN:=ae hn;clear ha hn;go_enter Tryz.func147,Tryz.ntmps147;go_wp2_with (refine db 27 70 (.int .u32 0) 4 cM Tryz.underlying27 rfl rfl _ _ rfl n rfl rfl (by omega) (by unfold maxLen;omega) ?_;intro w1 hr1 hk1);have HR1:=ae (da hr1);have HK1:=ae hk1;clear hr1 hk1;go_loopg [7,8] n (fun kx s7 s8 wr=>∃ (k r:Nat) (L:List Nat),s7=.int .u64 r/\s8=.int .i64 ((k:Int) - 1)/\k<=n/\k<=kx/\r<d/\Hid (ai wr w.heap.size 70 (L.map f'))/\Hid (L.length=n/\Wd L)/\Hid (nv (xs.drop k)=d*nv (L.drop k)+r)/\Hid (af w wr))
 case atStart=>exact ⟨n,0,List.replicate n 0,rfl,rfl,Nat.le_refl _,Nat.le_refl _,hd0,HR1,ae ⟨by simp,Wd.zeros _⟩,ae (by rw [de (by rw [<-HN.out];exact Nat.le_refl _),de (by simp)];simp),HK1⟩
 case round =>
  obtain ⟨k,r,L,rfl,rfl,hk,hkx,hr,HR,HL,HI,HK⟩:=hrel;by_cases hk0:k=0
  ·subst hk0;have hI:=HI.out;simp only [List.drop_zero] at hI;obtain ⟨h1,h2⟩:=Ap hI hr;have H1:=ae h1;have H2:=ae h2
   have HT:Hid (Calls Tryz.prog 116 #[.slice (some ⟨w.heap.size,0,none⟩) n n] wr fun e w'=>(∃ v',e=.returned v'/\WdsAt w' v' (nw (nv L)))/\af wr w'):=ae (by
    have h:=eW HR.out (c:=n) (by rw [HL.out.1];exact Nat.le_refl _) (by rw [HL.out.1];omega) HL.out.2;rw [HL.out.1] at h;exact bh _ _ _ h)
   have e5:IntKind.u32.wrap (r:Int)=(r:Int):=by rw [IntKind.wrap_u32];omega
   clear hI h1 h2;go_wp2_with (go_at_call 116;refine HT.out.mono ?_;rintro e w2 ⟨⟨v2,rfl,hv2⟩,hk2⟩;have HV2:=ae hv2;clear hv2);obtain ⟨a2,c2,rfl⟩:=HV2.out.shape;go_ret2;exact ⟨⟨_,by rw [H2.out];first | done | rfl,by rw [H1.out];exact HV2.out⟩,HK.out.trans hk2⟩
  ·obtain ⟨j,rfl⟩:∃ j,k=j+1:=⟨k - 1,by omega⟩;obtain ⟨b,o,rfl,hcx⟩:=(HA.out.kept HK.out).get j (by have:=HN.out;omega);have hx:=HA.out.wd.getD j;have hjL:j<L.length:=by have:=HL.out.1;omega
   have f:=HR.out.free j;have hst:=bk HR.out j hjL
   have HSS:Hid (∀ cur,cur=r*4294967296+xs.getD j 0->(nv (xs.drop j)=d*nv ((L.set j (cur / d)).drop j)+cur % d)/\cur % d<d/\cur / d<4294967296/\cur<18446744073709551616):=ae fun cur hc=>by
    obtain ⟨h1,h2,h3,h4⟩:=vT HI.out hr hd hx hc;refine ⟨?_,h2,h3,h4⟩;rw [aW (l:=xs) (i:=j) (by have:=HN.out;omega),aW (l:=L.set j (cur / d)) (i:=j) (by rw [List.length_set];exact hjL),eA hjL,List.drop_set_of_lt (by omega)];exact h1
   generalize xs.getD j 0=x at *;generalize L.getD j 0=z at *;have eor:=jq r x (by omega) hx;obtain ⟨cur,hcur⟩:∃ cur,cur=r*4294967296+x:=⟨_,rfl⟩;obtain ⟨h1,h2,h3,h4⟩:=HSS.out cur hcur;rw [<-hcur] at eor;obtain ⟨qq,hqq⟩:∃ qq,qq=cur / d:=⟨_,rfl⟩;obtain ⟨rr,hrr⟩:∃ rr,rr=cur % d:=⟨_,rfl⟩;rw [<-hqq,<-hrr] at h1;rw [<-hqq] at h3;rw [<-hrr] at h2;have eq1:(cur:Int) / (d:Int)=(qq:Int):=by rw [hqq];simp
   have eq2:(cur:Int) % (d:Int)=(rr:Int):=by rw [hrr];simp
   have HS1:=ae h1;have ej:((j+1:Nat):Int) - 1=(j:Int):=by omega
   have hjn:(j:Int)<(n:Int):=by omega
   have hj0:(0:Int)<=(j:Int):=by omega
   clear h1 HSS hcur hqq hrr;rw [ej];go_wp2;go_roundg j
   case measure=>omega
   case rel=>exact ⟨j,rr,L.set j qq,by rw [eq2],rfl,by omega,Nat.le_refl _,h2,ae (bj HR.out j qq),ae ⟨by rw [List.length_set];exact HL.out.1,HL.out.2.set j qq h3⟩,HS1,ae (HK.out.store (Nat.le_refl _) j _)⟩
theorem Ch (x n:Nat) (hx:x<4294967296) (hn:n<32):x*2^n<18446744073709551616:=(CD (y:=x*2^n) hn hx rfl).1
theorem ve {L xs:List Nat} {i n y x w:Nat} (hn:n<32) (hI:nv L=nv (xs.take i)*2^n) (hw:w=L.getD i 0) (hw2:w<2^n) (hz:L.getD (i+1) 0=0) (hx:x=xs.getD i 0) (hy:y=x*2^n) (hi:i+1<L.length) :
  nv ((L.set i (w ||| (y % 4294967296))).set (i+1) (y / 4294967296))=nv (xs.take (i+1))*2^n/\(w ||| (y % 4294967296))<4294967296:=by
 have h1:=rp L i (w ||| (y % 4294967296)) (by omega);have h2:=rp (L.set i (w ||| (y % 4294967296))) (i+1) (y / 4294967296) (by rw [List.length_set];exact hi);rw [c_ (by omega),hz,Nat.zero_mul,Nat.add_zero] at h2;rw [<-hw] at h1
 have h3:nv ((L.set i (w ||| (y % 4294967296))).set (i+1) (y / 4294967296))+w*4294967296^i=nv L+(w ||| (y % 4294967296))*4294967296^i+(y / 4294967296)*(4294967296*4294967296^i):=by
  rw [h2,Nat.pow_succ,Nat.mul_comm (4294967296^i) 4294967296];omega
 obtain ⟨h4,h5⟩:=DN hn hI hy hw2 _ h3;refine ⟨by rw [h5,aq,hx],?_⟩;have h6:w<2^32:=Nat.lt_of_lt_of_le hw2 (Nat.pow_le_pow_right (by omega) (by omega));exact Nat.or_lt_two_pow (n:=32) h6 (by omega)
theorem AO (va:Value) (xs:List Nat) (n:Nat) (w:World) (ha:WdsAt w va xs) (hn:n<32) (hla:xs.length<=549755813888) :
  Calls Tryz.prog 235 #[va,.int .i64 n] w fun e w'=>(∃ L,e=.returned (.slice (some ⟨w.heap.size,0,none⟩) (xs.length+1) (xs.length+1))/\ai w' w.heap.size 70 (L.map f')/\L.length=xs.length+1/\Wd L/\nv L=nv xs*2^n)/\af w w':=by
 have HA:=ae ha;obtain ⟨a0,c0,rfl⟩:=ha.shape;obtain ⟨l0,h0⟩:∃ l0,l0=xs.length:=⟨_,rfl⟩;rw [<-h0] at HA hla⊢;have H0:=ae h0;obtain ⟨p,hp⟩:∃ p,p=l0+1:=⟨_,rfl⟩;have e1:(l0:Int)+1=(p:Int):=by omega
 have hp9:p<=549755813889:=by omega
 rw [<-hp];clear ha h0;have HP:=ae hp;clear hp;go_enter Tryz.func235,Tryz.ntmps235;go_wp2_with (refine db 27 70 (.int .u32 0) 4 cM Tryz.underlying27 rfl rfl _ _ rfl p rfl rfl (by omega) (by unfold maxLen;omega) ?_;intro w1 hr1 hk1);have HR1:=ae (da hr1);have HK1:=ae hk1;clear hr1 hk1;go_loopg [15] l0 (fun kx s15 wr=>∃ (i:Nat) (L:List Nat),s15=.int .i64 i/\i<=l0/\l0 - i<=kx/\Hid (ai wr w.heap.size 70 (L.map f'))/\Hid (L.length=p/\Wd L)/\Hid (nv L=nv (xs.take i)*2^n/\L.getD i 0<2^n/\∀ q,i<q->L.getD q 0=0)/\Hid (af w wr))
 case atStart=>exact ⟨0,List.replicate p 0,rfl,Nat.zero_le _,by omega,HR1,ae ⟨by simp,Wd.zeros _⟩,ae ⟨by rw [lg];simp [ct],by simp [List.getD_eq_getElem?_getD,List.getElem?_replicate];split <;> exact Nat.two_pow_pos n,fun q _=>by simp [List.getD_eq_getElem?_getD,List.getElem?_replicate];split <;> rfl⟩,HK1⟩
 case round =>
  obtain ⟨i,L,rfl,hi,hkx,HR,HL,HI,HK⟩:=hrel;by_cases hlt:i<l0
  ·obtain ⟨b,o,rfl,hcx⟩:=(HA.out.kept HK.out).get i (by have:=H0.out;omega);have hx:=HA.out.wd.getD i;have hpp:=HP.out;have hiL:i<L.length:=by have:=HL.out.1;omega
   have hiL1:i+1<L.length:=by have:=HL.out.1;omega
   have hip:i<p:=by omega
   have hip1:i+1<p:=by omega
   have f:=HR.out.free i;have f1:=HR.out.free (i+1);have hst:=bk HR.out i hiL;have hst1:=bk HR.out (i+1) hiL1;have hz:=HI.out.2.2 (i+1) (by omega);rw [hz] at hst1;obtain ⟨x,hxx⟩:∃ x,x=xs.getD i 0:=⟨_,rfl⟩;obtain ⟨y,hyy⟩:∃ y,y=x*2^n:=⟨_,rfl⟩;obtain ⟨z,hzz⟩:∃ z,z=L.getD i 0:=⟨_,rfl⟩;rw [<-hxx] at hcx hx;rw [<-hzz] at hst;have hz9:z<4294967296:=by rw [hzz];exact HL.out.2.getD i
   obtain ⟨hrd,hor⟩:=ve hn HI.out.1 hzz (by rw [hzz];exact HI.out.2.1) hz hxx hyy hiL1;obtain ⟨htop,htop2⟩:=CD hn hx hyy;have ey:(x:Int)*2^n=(y:Int):=by rw [hyy];simp
   obtain ⟨q,hq⟩:∃ q,q=y / 4294967296:=⟨_,rfl⟩;obtain ⟨r,hr⟩:∃ r,r=y % 4294967296:=⟨_,rfl⟩;obtain ⟨t,ht⟩:∃ t,t=(z ||| r):=⟨_,rfl⟩;rw [<-hq,<-hr,<-ht] at hrd;rw [<-hr,<-ht] at hor;rw [<-hq] at htop2;have hq9:q<4294967296:=by omega
   have hr9:r<4294967296:=by omega
   have e6:(y:Int) / 4294967296=(q:Int):=by omega
   have e5:IntKind.u32.wrap (y:Int)=(r:Int):=by rw [IntKind.wrap_u32];omega
   have e7:bits .or .u32 (z:Int) (r:Int)=(t:Int):=by rw [ht];exact EI z r hz9 hr9
   have HRD:=ae hrd;have HT2:=ae htop2;have hkn:(i:Int)<(l0:Int):=by omega
   clear hrd hyy hxx hzz hq hr ht hz hpp htop2;go_wp2;go_roundg (l0 - (i+1))
   case measure=>omega
   case rel =>
    refine ⟨i+1,(L.set i t).set (i+1) q,by go_num,by omega,Nat.le_refl _,ae (bj (bj HR.out i t) (i+1) q),ae ⟨by rw [List.length_set,List.length_set];exact HL.out.1,(HL.out.2.set i t hor).set _ q hq9⟩,ae ⟨HRD.out,?_,fun j hj=>?_⟩,ae ((HK.out.store (Nat.le_refl _) _ _).store (Nat.le_refl _) _ _)⟩
    ·rw [eA (by rw [List.length_set];exact hiL1)];exact HT2.out
    ·rw [c_ (by omega),c_ (by omega)];exact HI.out.2.2 j (by omega)
  ·have hie:i=l0:=by omega
   have HV:Hid (nv L=nv xs*2^n):=ae (by have:=HI.out.1;rw [hie,H0.out,ar _ _ (Nat.le_refl _)] at this;exact this);clear hie;go_wp2;go_ret;exact ⟨⟨L,rfl,HR.out,HL.out.1,HL.out.2,HV.out⟩,HK.out⟩
theorem oV {xs:List Nat} {n i:Nat} (hn:n<32) (hi:i<xs.length) (hw:Wd xs):∃ t u:Nat,bits .or .u64 ((xs.getD i 0:Nat):Int) (((xs.getD (i+1) 0:Nat):Int)*4294967296)=(t:Int)/\(t:Int) / 2^n=(u:Int)/\t<18446744073709551616/\u<=t/\u % 4294967296=(nv xs / 2^n / 4294967296^i) % 4294967296:=by
 have h0:=hw.getD i;have h1:=hw.getD (i+1);refine ⟨xs.getD i 0 ||| xs.getD (i+1) 0*4294967296,(xs.getD i 0 ||| xs.getD (i+1) 0*4294967296) / 2^n,?_,by simp,?_,Nat.div_le_self _ _,xS n i hn hi hw⟩
 ·have h:=oI (xs.getD i 0) (xs.getD (i+1) 0*4294967296) (by omega) (by omega);rw [<-h];simp
 ·exact Nat.or_lt_two_pow (n:=64) (by omega) (by omega)
theorem ze (va:Value) (xs:List Nat) (n:Nat) (w:World) (ha:WdsAt w va xs) (hn:n<32) :
  Calls Tryz.prog 238 #[va,.int .i64 n] w fun e w'=>(∃ v' L,e=.returned v'/\WdsAt w' v' L/\nv L=nv xs / 2^n)/\af w w':=by
 have HW:=ae (fun W (hk:af w W) (i:Nat)=>ee va xs i W (ha.kept hk));have HA:=ae ha;obtain ⟨a0,c0,rfl⟩:=ha.shape;obtain ⟨l0,h0⟩:∃ l0,l0=xs.length:=⟨_,rfl⟩;have hl9:l0<=1099511627776:=by rw [h0];exact ha.len
 rw [<-h0] at HW⊢;have H0:=ae h0;clear ha h0;go_enter Tryz.func238,Tryz.ntmps238;go_wp2_with (refine db 27 70 (.int .u32 0) 4 cM Tryz.underlying27 rfl rfl _ _ rfl l0 rfl rfl (by omega) (by unfold maxLen;omega) ?_;intro w1 hr1 hk1);have HR1:=ae (da hr1);have HK1:=ae hk1;clear hr1 hk1;go_loopg [12] l0 (fun kx s12 wr=>∃ (i:Nat) (L:List Nat),s12=.int .i64 i/\i<=l0/\l0 - i<=kx/\Hid (ai wr w.heap.size 70 (L.map f'))/\Hid (L.length=l0/\Wd L)/\Hid (nv (L.take i)=nv xs / 2^n % 4294967296^i)/\Hid (af w wr))
 case atStart=>exact ⟨0,List.replicate l0 0,rfl,Nat.zero_le _,by omega,HR1,ae ⟨by simp,Wd.zeros _⟩,ae (by simp [ct,Nat.mod_one]),HK1⟩
 case round =>
  obtain ⟨i,L,rfl,hi,hkx,HR,HL,HI,HK⟩:=hrel;by_cases hlt:i<l0
  ·have hiL:i<L.length:=by have:=HL.out.1;omega
   have f:=HR.out.free i;have hst:=bk HR.out i hiL;obtain ⟨t,u,h1,h2,h3,h4,h5⟩:=oV hn (by have:=H0.out;omega:i<xs.length) HA.out.wd;have hx:=HA.out.wd.getD i;have hx1:=HA.out.wd.getD (i+1);have HX:=ae (HW.out wr HK.out i);have HX1:=ae (HW.out wr HK.out (i+1));generalize xs.getD i 0=x at *;generalize xs.getD (i+1) 0=x1 at *;obtain ⟨r,hr⟩:∃ r,r=u % 4294967296:=⟨_,rfl⟩;have hr9:r<4294967296:=by omega
   have e5:IntKind.u32.wrap (u:Int)=(r:Int):=by rw [IntKind.wrap_u32];omega
   have HS:Hid (nv ((L.set i r).take (i+1))=nv xs / 2^n % 4294967296^(i+1)):=ae (by rw [dH hiL,HI.out,hr,h5,kZ]);have hkn:(i:Int)<(l0:Int):=by omega
   clear h5 hr;go_wp2_with (first | (go_at_call 239;(with_reducible refine HX.out.mono ?_);rintro e w2 ⟨rfl,rfl⟩) | (go_at_call 239;refine HX1.out.mono ?_;rintro e w2 ⟨rfl,rfl⟩));go_roundg (l0 - (i+1))
   case measure=>omega
   case rel=>exact ⟨i+1,L.set i r,by go_num,by omega,Nat.le_refl _,ae (bj HR.out i r),ae ⟨by rw [List.length_set];exact HL.out.1,HL.out.2.set i r hr9⟩,HS,ae (HK.out.store (Nat.le_refl _) _ _)⟩
  ·have hie:i=l0:=by omega
   have HV:Hid (nv L=nv xs / 2^n):=ae (by
    have h:=HI.out;rw [hie,ar _ _ (by rw [HL.out.1];exact Nat.le_refl _)] at h;rw [h];refine Nat.mod_eq_of_lt (Nat.lt_of_le_of_lt (Nat.div_le_self _ _) ?_);rw [H0.out];exact dw HA.out.wd)
   have HF:Hid (WdsAt wr (.slice (some ⟨w.heap.size,0,none⟩) l0 l0) L):=ae (by
    have h:=eW HR.out (c:=l0) (by rw [HL.out.1];exact Nat.le_refl _) (by rw [HL.out.1];omega) HL.out.2;rw [HL.out.1] at h;exact h)
   clear hie;go_wp2;go_ret;exact ⟨⟨_,L,rfl,HF.out,HV.out⟩,HK.out⟩
structure az (g:Nat) (w w':World):Prop where
 os:w'.os=w.os
 tape:w'.tape=w.tape
 output:w'.output=w.output
 size:w.heap.size<=w'.heap.size
 block:∀ k,k<w.heap.size->k≠g->w'.heap[k]?=w.heap[k]?
theorem az.refl (g:Nat) (w:World):az g w w:=⟨rfl,rfl,rfl,Nat.le_refl _,fun _ _ _=>rfl⟩
theorem az.trans {g:Nat} {a b c:World} (h:az g a b) (k:az g b c):az g a c :=
 ⟨k.os.trans h.os,k.tape.trans h.tape,k.output.trans h.output,Nat.le_trans h.size k.size,fun i hi hne=>(k.block i (Nat.lt_of_lt_of_le hi h.size) hne).trans (h.block i hi hne)⟩
theorem az.kept {g:Nat} {a b:World} (h:af a b):az g a b:=⟨h.os,h.tape,h.output,h.size,fun i hi _=>h.block i hi⟩
theorem az.store {g:Nat} {a b:World} (h:az g a b) (i:Nat) (u:Value):az g a (b.setCell ⟨g,i,none⟩ u):=by
 have h3:Below 0 b (b.setCell ⟨g,i,none⟩ u):=Below.setCell (Below.refl _ _) (Nat.zero_le _) _;exact ⟨h3.os.trans h.os,h3.tape.trans h.tape,h3.output.trans h.output,Nat.le_trans h.size h3.size,fun k hk hne=>(Below.heap_setCell b ⟨g,i,none⟩ u k hne).trans (h.block k hk hne)⟩
theorem az.row {g p:Nat} {w w':World} {e:TypeId} {xs:List Value} (h:az g w w') (hr:ai w p e xs) (hne:p≠g):ai w' p e xs:=hr.same (h.block p hr.lt hne)
theorem az.toKept {g:Nat} {w0 w w':World} (h:az g w w') (hk:af w0 w) (hg:w0.heap.size<=g):af w0 w' :=
 ⟨h.os.trans hk.os,h.tape.trans hk.tape,h.output.trans hk.output,Nat.le_trans hk.size h.size,fun k hk'=>(h.block k (Nat.lt_of_lt_of_le hk' hk.size) (by omega)).trans (hk.block k hk')⟩
theorem drop_set (l:List Nat) (o i x:Nat):(l.set (o+i) x).drop o=(l.drop o).set i x:=by
 rw [List.drop_set,if_neg (by omega),Nat.add_sub_cancel_left]
theorem xu {l:List Nat} {o i x:Nat} (h:o+i<l.length):nv (((l.set (o+i) x).drop o).take (i+1))=nv ((l.drop o).take i)+x*4294967296^i:=by
 rw [drop_set,dH (by rw [List.length_drop];omega)]
theorem tO (l:List Nat) (o i:Nat):nv ((l.drop o).take (i+1))=nv ((l.drop o).take i)+l.getD (o+i) 0*4294967296^i:=by
 rw [aq,dF]
theorem Cq (g gv o m k c cv n:Nat) (U V:List Nat) (w:World) (hU:ai w g 70 (U.map f')) (hV:ai w gv 70 (V.map f')) (hne:gv≠g) (hUw:Wd U) (hVw:Wd V) (hk:k=m+1) (hoU:o+k<=U.length) (hmV:m<=V.length) (hm9:m<=549755813888) (hcv:m<=cv) (hn:n<4294967296) (_hc:k<=c) :
  Calls Tryz.prog 236 #[.slice (some ⟨g,o,none⟩) k c,.slice (some ⟨gv,0,none⟩) m cv,.int .u64 n] w fun e w'=>(∃ (b:Nat) (U':List Nat),e=.returned (.bool ((b:Int) == 1))/\b<=1/\ai w' g 70 (U'.map f')/\Wd U'/\U'.length=U.length/\(∀ j,j<o\/o+k<=j->U'.getD j 0=U.getD j 0) /\
   nv ((U'.drop o).take k)+n*nv (V.take m)=nv ((U.drop o).take k)+b*4294967296^k)/\az g w w':=by
 have HU:=ae hU;have HLN:=ae hoU;have HWU:=ae hUw;have HK:=ae hk;have hk9:k<=549755813889:=by omega
 have hlV:(V.take m).length=m:=by rw [List.length_take];omega
 have HLV:=ae hlV;have HVW:Hid (Wd (V.take m)):=ae (hVw.take m)
 have HWD:Hid (∀ W,az g w W->∀ i:Nat,Calls Tryz.prog 239 #[.slice (some ⟨gv,0,none⟩) m cv,.int .i64 i] W fun e w'=>e=.returned (.int .u64 (((V.take m).getD i 0:Nat):Int))/\W=w'):=ae fun W hW i=>by
  have h:=hW.row hV hne
  have h2:WdsAt W (.slice (some ⟨gv,0,none⟩) m cv) (V.take m):=by
   refine ⟨_,cv,by rw [hlV],⟨by omega,fun h=>by cases h⟩,by omega,hVw.take m,fun j hj=>⟨gv,0,rfl,?_⟩⟩;rw [hlV] at hj;have:=bk h j (by omega);rw [cr hj,Nat.zero_add];exact this
  exact ee _ _ i W h2
 clear hU hoU hUw hk hlV hV hVw;go_enter Tryz.func236,Tryz.ntmps236;go_wp2;go_loopg [7,8,13] k (fun kx s7 s8 s13 wr=>∃ (i cy b:Nat) (U':List Nat),s7=.int .u64 cy/\s8=.int .u64 b/\s13=.int .i64 i/\i<=k/\k - i<=kx/\cy<4294967296/\b<=1/\Hid (ai wr g 70 (U'.map f'))/\Hid (Wd U'/\U'.length=U.length/\(∀ j,j<o\/o+i<=j->U'.getD j 0=U.getD j 0)/\(m<i->cy=0))/\Hid (nv ((U'.drop o).take i)+n*nv ((V.take m).take i)=nv ((U.drop o).take i)+b*4294967296^i+cy*4294967296^i)/\Hid (az g w wr))
 case atStart=>exact ⟨0,0,0,U,rfl,rfl,rfl,Nat.zero_le _,by omega,by omega,by omega,HU,ae ⟨HWU.out,rfl,fun _ _=>rfl,fun h=>rfl⟩,ae (by simp [ct]),ae (az.refl _ _)⟩
 case round =>
  obtain ⟨i,cy,b,U',rfl,rfl,rfl,hi,hkx,hcy,hb,HR,HL,HI,HO⟩:=hrel;by_cases hlt:i<k
  ·have hiU:o+i<U'.length:=by have h1:=HL.out.2.1;have h2:=HLN.out;omega
   have f:=HR.out.free (o+i);have hst:=bk HR.out (o+i) hiU;have hxw:=HL.out.1.getD (o+i);have hux:U'.getD (o+i) 0=U.getD (o+i) 0:=HL.out.2.2.1 _ (.inr (Nat.le_refl _));have hyw:=HVW.out.getD i;have hy0:m<=i->(V.take m).getD i 0=0:=fun h=>by rw [List.getD_eq_getElem?_getD,List.getElem?_eq_none (by rw [HLV.out];exact h)];rfl
   have HX:=ae (HWD.out wr HO.out i)
   have HST:Hid (∀ s oo b',s=cy+n*(V.take m).getD i 0->oo+s % 4294967296+b=U'.getD (o+i) 0+b'*4294967296->nv (((U'.set (o+i) oo).drop o).take (i+1))+n*nv ((V.take m).take (i+1))=nv ((U.drop o).take (i+1))+b'*4294967296^(i+1)+(s / 4294967296)*4294967296^(i+1)):=ae fun s oo b' hs ho=>by
    have h:=zq HI.out hs (hux ▸ ho);rw [xu hiU,aq,tO U,h,Nat.pow_succ,Nat.mul_comm (4294967296^i)]
   obtain ⟨y,hyy⟩:∃ y,y=(V.take m).getD i 0:=⟨_,rfl⟩;rw [<-hyy] at hyw hy0 HX HST;generalize U'.getD (o+i) 0=x at *;obtain ⟨hs1,hs2,hs3⟩:=mr hcy hn hyw (show 0<4294967296 by omega);simp only [Nat.add_zero] at hs1 hs3;obtain ⟨ny,hny⟩:∃ ny,ny=n*y:=⟨_,rfl⟩;rw [<-hny] at hs1 hs2 hs3 HST;have eny:(n:Int)*(y:Int)=(ny:Int):=by rw [hny];simp
   have hn0:y=0->ny=0:=fun h=>by rw [hny,h,Nat.mul_zero]
   obtain ⟨s,hs⟩:∃ s,s=cy+ny:=⟨_,rfl⟩;rw [<-hs] at hs1 hs3;obtain ⟨sl,hsl⟩:∃ sl,sl=s % 4294967296:=⟨_,rfl⟩;obtain ⟨sh,hsh⟩:∃ sh,sh=s / 4294967296:=⟨_,rfl⟩;rw [<-hsh] at hs3;have hsl9:sl<4294967296:=by omega
   obtain ⟨oo,b',D,ho,hb',hD,hob,hm,hd,hcs⟩:=gK hxw hsl9 hb;have HSS:=ae (HST.out s oo b' hs (by rw [<-hsl];exact hob));rw [<-hsh] at HSS
   have hlast:m<i+1->sh=0:=fun h=>by
    have h1:=hy0 (by omega);have h2:=hn0 h1;omega
   have HLA:=ae hlast;have es:(cy:Int)+(ny:Int)=(s:Int):=by omega
   have esl:IntKind.u32.wrap (s:Int)=(sl:Int):=by rw [IntKind.wrap_u32];omega
   have esh:(s:Int) / 4294967296=(sh:Int):=by omega
   have e5:IntKind.u32.wrap (D:Int)=(oo:Int):=by rw [IntKind.wrap_u32];omega
   have e6:(D:Int) / 9223372036854775808=(b':Int):=by omega
   have hkn:(i:Int)<(k:Int):=by omega
   have hNEW:Hid (Wd (U'.set (o+i) oo)/\(U'.set (o+i) oo).length=U.length/\(∀ j,j<o\/o+(i+1)<=j->(U'.set (o+i) oo).getD j 0=U.getD j 0)/\(m<i+1->sh=0)):=ae ⟨HL.out.1.set _ _ ho,by rw [List.length_set];exact HL.out.2.1,fun j hj=>by rw [c_ (by omega)];exact HL.out.2.2.1 j (by omega),hlast⟩;clear HST hob hm hd hux hyy hny hn0 hy0 hs hsl hsh hlast;rcases hcs with ⟨h1,h2⟩ | ⟨h1,D1,h2,h3⟩ | ⟨h1,h2,h3⟩
   ·go_wp2_with (go_at_call 239;(with_reducible refine HX.out.mono ?_);rintro e w2 ⟨rfl,rfl⟩);go_roundg (k - (i+1))
    case measure=>omega
    case rel=>exact ⟨i+1,sh,b',U'.set (o+i) oo,rfl,rfl,by go_num,by omega,Nat.le_refl _,hs3,hb',ae (bj HR.out _ _),hNEW,HSS,ae (HO.out.store _ _)⟩
   ·have e1:=mu h2 (by omega);have hD1:D1<18446744073709551616:=by omega
    clear h2;go_wp2_with (go_at_call 239;(with_reducible refine HX.out.mono ?_);rintro e w2 ⟨rfl,rfl⟩);go_roundg (k - (i+1))
    case measure=>omega
    case rel=>exact ⟨i+1,sh,b',U'.set (o+i) oo,rfl,rfl,by go_num,by omega,Nat.le_refl _,hs3,hb',ae (bj HR.out _ _),hNEW,HSS,ae (HO.out.store _ _)⟩
   ·have e1:=mu h3 (by omega);have g1:x<=sl:=by omega
    have g2:sl<=x:=by omega
    have g3:1<=b:=by omega
    clear h1 h2 h3;go_wp2_with (go_at_call 239;(with_reducible refine HX.out.mono ?_);rintro e w2 ⟨rfl,rfl⟩);go_roundg (k - (i+1))
    case measure=>omega
    case rel=>exact ⟨i+1,sh,b',U'.set (o+i) oo,rfl,rfl,by go_num,by omega,Nat.le_refl _,hs3,hb',ae (bj HR.out _ _),hNEW,HSS,ae (HO.out.store _ _)⟩
  ·have hie:i=k:=by omega
   have hcy0:cy=0:=HL.out.2.2.2 (by have:=HK.out;omega);have hf:=HI.out;rw [hie,hcy0,Nat.zero_mul,Nat.add_zero,ar (V.take m) k (by rw [HLV.out,HK.out];omega)] at hf;have HF:=ae hf;have HE:=ae hie;clear hie hcy0 hf;go_wp2;go_ret;exact ⟨⟨b,U',rfl,hb,HR.out,HL.out.1,HL.out.2.1,fun j hj=>HL.out.2.2.1 j (by have:=HE.out;omega),HF.out⟩,HO.out⟩
theorem AD (g gv o m k c cv:Nat) (U V:List Nat) (w:World) (hU:ai w g 70 (U.map f')) (hV:ai w gv 70 (V.map f')) (hne:gv≠g) (hUw:Wd U) (hVw:Wd V) (hk:k=m+1) (hoU:o+k<=U.length) (hmV:m<=V.length) (hm9:m<=549755813888) (hcv:m<=cv) :
  Calls Tryz.prog 237 #[.slice (some ⟨g,o,none⟩) k c,.slice (some ⟨gv,0,none⟩) m cv] w fun e w'=>(∃ (b:Nat) (U':List Nat),e=.returned (.tuple #[])/\ai w' g 70 (U'.map f')/\Wd U'/\U'.length=U.length/\(∀ j,j<o\/o+k<=j->U'.getD j 0=U.getD j 0) /\
   nv ((U'.drop o).take k)+b*4294967296^k=nv ((U.drop o).take k)+nv (V.take m))/\az g w w':=by
 have HU:=ae hU;have HLN:=ae hoU;have HWU:=ae hUw;have HK:=ae hk;have hk9:k<=549755813889:=by omega
 have hlV:(V.take m).length=m:=by rw [List.length_take];omega
 have HLV:=ae hlV;have HVW:Hid (Wd (V.take m)):=ae (hVw.take m)
 have HWD:Hid (∀ W,az g w W->∀ i:Nat,Calls Tryz.prog 239 #[.slice (some ⟨gv,0,none⟩) m cv,.int .i64 i] W fun e w'=>e=.returned (.int .u64 (((V.take m).getD i 0:Nat):Int))/\W=w'):=ae fun W hW i=>by
  have h:=hW.row hV hne
  have h2:WdsAt W (.slice (some ⟨gv,0,none⟩) m cv) (V.take m):=by
   refine ⟨_,cv,by rw [hlV],⟨by omega,fun h=>by cases h⟩,by omega,hVw.take m,fun j hj=>⟨gv,0,rfl,?_⟩⟩;rw [hlV] at hj;have:=bk h j (by omega);rw [cr hj,Nat.zero_add];exact this
  exact ee _ _ i W h2
 clear hU hoU hUw hk hlV hV hVw;go_enter Tryz.func237,Tryz.ntmps237;go_wp2;go_loopg [4,8] k (fun kx s4 s8 wr=>∃ (i cy:Nat) (U':List Nat),s4=.int .u64 cy/\s8=.int .i64 i/\i<=k/\k - i<=kx/\cy<=1/\Hid (ai wr g 70 (U'.map f'))/\Hid (Wd U'/\U'.length=U.length/\(∀ j,j<o\/o+i<=j->U'.getD j 0=U.getD j 0))/\Hid (nv ((U'.drop o).take i)+cy*4294967296^i=nv ((U.drop o).take i)+nv ((V.take m).take i))/\Hid (az g w wr))
 case atStart=>exact ⟨0,0,U,rfl,rfl,Nat.zero_le _,by omega,by omega,HU,ae ⟨HWU.out,rfl,fun _ _=>rfl⟩,ae (by simp [ct]),ae (az.refl _ _)⟩
 case round =>
  obtain ⟨i,cy,U',rfl,rfl,hi,hkx,hcy,HR,HL,HI,HO⟩:=hrel;by_cases hlt:i<k
  ·have hiU:o+i<U'.length:=by have h1:=HL.out.2.1;have h2:=HLN.out;omega
   have f:=HR.out.free (o+i);have hst:=bk HR.out (o+i) hiU;have hxw:=HL.out.1.getD (o+i);have hux:U'.getD (o+i) 0=U.getD (o+i) 0:=HL.out.2.2 _ (.inr (Nat.le_refl _));have hyw:=HVW.out.getD i;have HX:=ae (fun W hk=>HWD.out W (HO.out.trans (az.kept hk)) i)
   have HST:Hid (∀ s,s=cy+U'.getD (o+i) 0+(V.take m).getD i 0->nv (((U'.set (o+i) (s % 4294967296)).drop o).take (i+1))+(s / 4294967296)*4294967296^(i+1)=nv ((U.drop o).take (i+1))+nv ((V.take m).take (i+1))):=ae fun s hs=>by
    have h:=mw HI.out hs;rw [xu hiU,tO U,aq (V.take m),<-hux,<-h,Nat.pow_succ,Nat.mul_comm (4294967296^i)]
   generalize (V.take m).getD i 0=y at *;generalize U'.getD (o+i) 0=x at *;obtain ⟨s,hs⟩:∃ s,s=cy+x+y:=⟨_,rfl⟩;have hs9:s<18446744073709551616:=by omega
   obtain ⟨r,hr⟩:∃ r,r=s % 4294967296:=⟨_,rfl⟩;obtain ⟨q,hq⟩:∃ q,q=s / 4294967296:=⟨_,rfl⟩;have hr9:r<4294967296:=by omega
   have hq9:q<=1:=by omega
   have HSS:=ae (HST.out s hs);rw [<-hr,<-hq] at HSS;have e3:(cy:Int)+((x:Int)+(y:Int))=(s:Int):=by omega
   have e6:(s:Int) / 4294967296=(q:Int):=by omega
   have e5:IntKind.u32.wrap (s:Int)=(r:Int):=by rw [IntKind.wrap_u32];omega
   have hkn:(i:Int)<(k:Int):=by omega
   have hNEW:Hid (Wd (U'.set (o+i) r)/\(U'.set (o+i) r).length=U.length/\(∀ j,j<o\/o+(i+1)<=j->(U'.set (o+i) r).getD j 0=U.getD j 0)):=ae ⟨HL.out.1.set _ _ hr9,by rw [List.length_set];exact HL.out.2.1,fun j hj=>by rw [c_ (by omega)];exact HL.out.2.2 j (by omega)⟩;have hst':=((af.refl wr).drew).cell hst;clear hs hr hq HST hux;go_wp2;go_region_with ((go_at_call 239;refine (HX.out _ (by first | exact af.refl _ | exact (af.refl _).drew)).mono ?_;rintro e w2 ⟨rfl,rfl⟩))
   all_goals
    go_wp2;go_roundg (k - (i+1))
    case measure=>omega
    case rel=>exact ⟨i+1,q,U'.set (o+i) r,rfl,by go_num,by omega,Nat.le_refl _,hq9,ae (bj (HR.out.kept (af.refl _).drew) _ _),hNEW,HSS,ae ((HO.out.trans (az.kept (af.refl _).drew)).store _ _)⟩
  ·have hie:i=k:=by omega
   have hf:=HI.out;rw [hie,ar (V.take m) k (by rw [HLV.out,HK.out];omega)] at hf;have HF:=ae hf;have HE:=ae hie;clear hie hf;go_wp2;go_end0;exact ⟨⟨cy,U',rfl,HR.out,HL.out.1,HL.out.2.1,fun j hj=>HL.out.2.2 j (by have:=HE.out;omega),HF.out⟩,HO.out⟩
theorem oD (l:List Nat) (h:∀ i,l.getD i 0=0):nv l=0:=by
 induction l with
 | nil=>rfl
 | cons x l ih =>
  have h0:=h 0;rw [List.getD_cons_zero] at h0;rw [cn,h0,ih fun i=>by have:=h (i+1);rwa [List.getD_cons_succ] at this]
theorem pm {U:List Nat} {j n:Nat} (h:j<U.length):(U.drop j).take (n+1)=U.getD j 0 :: (U.drop (j+1)).take n:=by
 rw [List.drop_eq_getElem_cons h,List.take_succ_cons];simp [List.getD_eq_getElem?_getD,h]
theorem xd {U:List Nat} {j m N:Nat} (hlen:j<U.length) (hR:nv (U.drop (j+1))<N) (hN:N<4294967296^(m+2)) :
  nv ((U.drop j).take (m+3))=U.getD j 0+4294967296*nv (U.drop (j+1))/\(∀ i,j+(m+3)<=i->U.getD i 0=0):=by
 obtain ⟨h1,h2⟩:=ku (Nat.lt_trans hR hN);refine ⟨by rw [pm hlen,cn,h2],fun i hi=>?_⟩;have:=h1 (i - (j+1)) (by omega)
 rwa [dF,show j+1+(i - (j+1))=i by omega] at this
theorem Aq {U:List Nat} {j m:Nat} (hz:∀ i,j+(m+3)<=i->U.getD i 0=0):nv (U.drop j)=nv ((U.drop j).take (m+3)):=by
 by_cases h:m+3<=(U.drop j).length
 ·rw [fA (U.drop j) (m+3) h,oD ((U.drop j).drop (m+3)) (fun i=>by rw [List.drop_drop,dF];exact hz _ (by omega))];omega
 ·rw [List.take_of_length_le (by omega)]
theorem FY {l:List Nat} (hw:Wd l) {m:Nat} (hm:l.length=m+3):((l.getD (m+2) 0*4294967296+l.getD (m+1) 0)*4294967296+l.getD m 0)*4294967296^m<=nv l/\nv l<((l.getD (m+2) 0*4294967296+l.getD (m+1) 0)*4294967296+l.getD m 0+1)*4294967296^m:=by
 have h1:=fA l m (by omega);rw [aW (by omega),aW (by omega),aW (by omega),de (by omega)] at h1;simp only [Nat.mul_zero,Nat.add_zero] at h1;rw [show m+1+1=m+2 from rfl] at h1;have h2:=dw (hw.take m);rw [List.length_take,Nat.min_eq_left (by omega)] at h2;have e:(l.getD (m+2) 0*4294967296+l.getD (m+1) 0)*4294967296+l.getD m 0=l.getD m 0+4294967296*(l.getD (m+1) 0+4294967296*l.getD (m+2) 0):=by omega
 rw [e];refine ⟨by rw [h1,Nat.mul_comm];omega,?_⟩;rw [Nat.add_mul,Nat.one_mul,Nat.mul_comm _ (4294967296^m)];omega
structure Est (N X m top next a b u2:Nat):Prop where
 top1:2147483648<=top
 top2:top<4294967296
 next2:next<4294967296
 u22:u2<4294967296
 a2:a<4294967296
 b2:b<4294967296
 lo1:top*4294967296^(m+1)<=N
 lo2:(top*4294967296+next)*4294967296^m<=N
 hi2:N<(top*4294967296+next+1)*4294967296^m
 xhi:X<(a*4294967296+b+1)*4294967296^(m+1)
 xlo3:((a*4294967296+b)*4294967296+u2)*4294967296^m<=X
 xhi3:X<((a*4294967296+b)*4294967296+u2+1)*4294967296^m
 xw:X<N*4294967296
theorem Est.make {V S:List Nat} {m X N R u0:Nat} (hV:V.length=m+2) (hwV:Wd V) (hN:nv V=N) (hS:S.length=m+3) (hwS:Wd S) (hX:nv S=X) (ht:2147483648<=V.getD (m+1) 0) (hX2:X=u0+4294967296*R) (hR:R<N) (hu:u0<4294967296) :
  Est N X m (V.getD (m+1) 0) (V.getD m 0) (S.getD (m+2) 0) (S.getD (m+1) 0) (S.getD m 0):=by
 have hxw:X<N*4294967296:=by omega
 obtain ⟨_,h1,h2⟩:=qK hwV hV;obtain ⟨_,h3,_⟩:=fH hwV (m:=m+1) hV;obtain ⟨h4,h5⟩:=FY hwS hS;obtain ⟨_,_,h6⟩:=qK hwS (m:=m+1) hS;have e1:V.getD m 0+4294967296*V.getD (m+1) 0=V.getD (m+1) 0*4294967296+V.getD m 0:=by omega
 rw [show m+1+1=m+2 from rfl] at h6;have e2:S.getD (m+1) 0+4294967296*S.getD (m+2) 0=S.getD (m+2) 0*4294967296+S.getD (m+1) 0:=by omega
 rw [e1] at h1 h2;rw [e2] at h6;rw [hN] at h1 h2 h3;rw [hX] at h4 h5 h6;exact ⟨ht,hwV.getD _,hwV.getD _,hwS.getD _,hwS.getD _,hwS.getD _,h3,h1,h2,h6,h4,h5,hxw⟩
theorem Est.pos {N X m top next a b u2:Nat} (h:Est N X m top next a b u2):0<N:=by
 have h1:=h.lo1;have h2:=h.top1;have h3:0<4294967296^(m+1):=Nat.pow_pos (by omega);have h4:1*4294967296^(m+1)<=top*4294967296^(m+1):=Nat.mul_le_mul_right _ (by omega);omega
theorem Est.head {N X m top next a b u2:Nat} (h:Est N X m top next a b u2):a<=top:=by
 have h1:a*4294967296^(m+2)<=X:=by
  refine Nat.le_trans ?_ h.xlo3;rw [Nat.pow_succ,Nat.pow_succ,Nat.mul_assoc,Nat.mul_comm (4294967296^m),<-Nat.mul_assoc,<-Nat.mul_assoc];exact Nat.mul_le_mul_right _ (by omega)
 have h2:N<(top+1)*4294967296^(m+1):=by
  refine Nat.lt_of_lt_of_le h.hi2 ?_;rw [Nat.pow_succ,Nat.mul_comm (4294967296^m),<-Nat.mul_assoc];exact Nat.mul_le_mul_right _ (by have:=h.next2;omega)
 have h3:a*4294967296^(m+2)<(top+1)*4294967296^(m+2):=by
  refine Nat.lt_of_le_of_lt h1 (Nat.lt_of_lt_of_le h.xw ?_);rw [Nat.pow_succ 4294967296 (m+1),<-Nat.mul_assoc];exact Nat.mul_le_mul_right _ (Nat.le_of_lt h2)
 have:=Nat.lt_of_mul_lt_mul_right h3;omega
structure ii (N X top head g r:Nat):Prop where
 sum:g*top+r=head
 ge:X / N<=g
theorem ii.start {N X m top next a b u2:Nat} (h:Est N X m top next a b u2) {head:Nat} (hh:head=a*4294967296+b):ii N X top head (head / top) (head % top)/\head % top<4294967296/\head / top<18446744073709551616/\head<18446744073709551616:=by
 have ht:=h.top1;have ht2:=h.top2;have h1:=Nat.mod_lt head (show 0<top by omega);have h2:head<18446744073709551616:=by have:=h.a2;have:=h.b2;omega
 refine ⟨⟨by rw [Nat.mul_comm];exact Nat.div_add_mod head top,sB h.lo1 (by rw [hh];exact h.xhi) (by omega)⟩,by omega,Nat.lt_of_le_of_lt (Nat.div_le_self _ _) h2,h2⟩
theorem ii.next {N X m top next a b u2 head g r:Nat} (h:Est N X m top next a b u2) (hh:head=a*4294967296+b) (he:ii N X top head g r) (hg:4294967296<=g\/r*4294967296+u2<g*next):∃ g',g=g'+1/\ii N X top head g' (r+top):=by
 have h1:X / N<g:=by
  rcases At he.sum hg with h2 | h2
  ·rw [hh] at h2;exact yd h.lo2 h.xhi3 h2
  ·have h3:X / N<4294967296:=Nat.div_lt_of_lt_mul h.xw;omega
 have h4:0<g:=Nat.lt_of_le_of_lt (Nat.zero_le _) h1;refine ⟨g - 1,(Nat.sub_add_cancel h4).symm,?_,Nat.le_sub_one_of_lt h1⟩;have h3:=he.sum;clear h1;obtain ⟨g',rfl⟩:∃ g',g=g'+1:=⟨g - 1,by omega⟩;rw [Nat.add_mul,Nat.one_mul] at h3;rw [Nat.add_sub_cancel];omega
theorem ii.good {N X m top next a b u2 head g r:Nat} (h:Est N X m top next a b u2) (hh:head=a*4294967296+b) (he:ii N X top head g r) (hg:(g<4294967296/\g*next<=r*4294967296+u2)\/4294967296<=r):g<4294967296/\X / N<=g/\g<=X / N+1:=by
 have h1:g<4294967296/\g*(top*4294967296+next)<=head*4294967296+u2:=by
  rcases hg with ⟨h1,h2⟩ | h2
  ·exact ⟨h1,sq he.sum h2⟩
  ·exact xU he.sum h2 (by have:=h.head;have:=h.b2;rw [hh,Nat.add_mul];omega) h.next2 (by have:=h.top1;omega)
 refine ⟨h1.1,he.ge,AG (V2:=top*4294967296+next) (P:=4294967296^m) (head3:=head*4294967296+u2) h.hi2 (by rw [hh];exact h.xlo3) h1.2 ?_ h.pos⟩;refine Nat.le_trans ?_ h.lo2;exact Nat.mul_le_mul_right _ (by have:=h.top1;omega)
theorem pM {x:Nat} (h:x<2^64):x<2^Lib.bitLen x:=by
 rcases Nat.lt_or_ge x (2^Lib.bitLen x) with h1 | h1
 ·exact h1
 ·exfalso
  have h2:=Lib.bitLen_shift _ x h1 h
  have h3:x / 2^Lib.bitLen x≠0:=by
   have:=Nat.div_pos h1 (Nat.two_pow_pos _);omega
  have h4:=Lib.bitLen_half _ h3 (Nat.lt_of_le_of_lt (Nat.div_le_self _ _) h);omega
theorem pL {x:Nat} (h:x<2^64) (h0:x≠0):∃ k,Lib.bitLen x=k+1/\2^k<=x:=by
 have h1:=Lib.bitLen_half x h0 h;refine ⟨Lib.bitLen (x / 2),by omega,?_⟩;rcases Nat.lt_or_ge x (2^Lib.bitLen (x / 2)) with h2 | h2
 ·exfalso
  have h3:Lib.bitLen (x / 2)<=64:=Lib.bitLen_le _ 64 (Nat.le_refl _) (Nat.lt_of_le_of_lt (Nat.div_le_self _ _) h);have:=Lib.bitLen_le x _ h3 h2;omega
 ·exact h2
theorem qf {x:Nat} (h:x<4294967296) (h0:x≠0):∃ s:Nat,(32 - (Lib.bitLen x:Int))=(s:Int)/\s<32/\2147483648<=x*2^s/\x*2^s<4294967296:=by
 have h1:x<2^64:=Nat.lt_of_lt_of_le h (by omega);obtain ⟨k,hk,h2⟩:=pL h1 h0;have h3:Lib.bitLen x<=32:=Lib.bitLen_le x 32 (by omega) (by rw [show (2:Nat)^32=4294967296 by rfl];exact h);have h4:=pM h1;rw [hk] at h3 h4⊢;refine ⟨31 - k,by omega,by omega,?_,?_⟩
 ·have h5:2^k*2^(31 - k)<=x*2^(31 - k):=Nat.mul_le_mul_right _ h2;rw [<-Nat.pow_add,show k+(31 - k)=31 by omega] at h5;rw [show (2147483648:Nat)=2^31 by rfl];exact h5
 ·have h5:x*2^(31 - k)<2^(k+1)*2^(31 - k):=(Nat.mul_lt_mul_right (Nat.two_pow_pos _)).2 h4;rw [<-Nat.pow_add,show k+1+(31 - k)=32 by omega] at h5;rw [show (4294967296:Nat)=2^32 by rfl];exact h5
theorem uh (w:World) (x y:Nat) (hx:x<4294967296) (hy:y<4294967296):WdsAt (w.alloc (.cells #[.int .u32 (x:Int),.int .u32 (y:Int)] 70)) (.slice (some ⟨w.heap.size,0,none⟩) 2 2) [x,y] :=
 ⟨_,2,rfl,⟨by simp,fun h=>by cases h⟩,by simp,Wd.cons hx (Wd.cons hy Wd.nil),fun i hi=>⟨w.heap.size,0,rfl,by
  have:i=0\/i=1:=by simp at hi;omega
  rcases this with rfl | rfl <;> simp⟩⟩
theorem lC (w:World) (x:Nat) (hx:x<4294967296):WdsAt (w.alloc (.cells #[.int .u32 (x:Int)] 70)) (.slice (some ⟨w.heap.size,0,none⟩) 1 1) [x] :=
 ⟨_,1,rfl,⟨by simp,fun h=>by cases h⟩,by simp,Wd.cons hx Wd.nil,fun i hi=>⟨w.heap.size,0,rfl,by
  have:i=0:=by simp at hi;omega
  subst this;simp⟩⟩
theorem xh (n:Nat) (w:World) (hn:n<9223372036854775808):Calls Tryz.prog 207 #[.int .i64 n] w fun e w'=>(∃ v',e=.returned v'/\WdsAt w' v' (nw n))/\af w w':=by
 by_cases h0:n=0
 ·subst h0;go_enter Tryz.func207,Tryz.ntmps207;go_wp2;go_ret;exact ⟨⟨_,rfl,by rw [bR];exact WdsAt.nil _⟩,af.refl _⟩
 ·obtain ⟨x,hx⟩:∃ x,x=n % 4294967296:=⟨_,rfl⟩;obtain ⟨y,hy⟩:∃ y,y=n / 4294967296:=⟨_,rfl⟩;have hx9:x<4294967296:=by omega
  have hy9:y<4294967296:=by omega
  have hv:nv [x,y]=n:=by simp [nv];omega
  have e1:IntKind.u32.wrap (n:Int)=(x:Int):=by rw [IntKind.wrap_u32];omega
  have e2:(n:Int) / 4294967296=(y:Int):=by omega
  have hp:¬ (n:Int)<=0:=by omega
  have HT:Hid (∀ W:World,Calls Tryz.prog 116 #[.slice (some ⟨W.heap.size,0,none⟩) 2 2] (W.alloc (.cells #[.int .u32 (x:Int),.int .u32 (y:Int)] 70)) fun e w'=>(∃ v',e=.returned v'/\WdsAt w' v' (nw n))/\af (W.alloc (.cells #[.int .u32 (x:Int),.int .u32 (y:Int)] 70)) w'):=ae fun W=>by
   have h:=bh _ _ _ (uh W x y hx9 hy9);rw [hv] at h;exact h
  clear hx hy hv h0;go_enter Tryz.func207,Tryz.ntmps207;go_wp2_with (go_at_call 116;refine (HT.out _).mono ?_;rintro e w2 ⟨⟨v2,rfl,hv2⟩,hk2⟩;have HV2:=ae hv2;have HK2:=ae hk2;clear hv2 hk2);go_ret;exact ⟨⟨_,rfl,HV2.out⟩,((af.refl _).alloc _).trans HK2.out⟩
theorem sJ (va:Value) (xs:List Nat) (n:Nat) (w:World) (ha:WdsAt w va xs) (hn:n<32) (hla:xs.length<=549755813888) :
  Calls Tryz.prog 235 #[va,.int .i64 n] w fun e w'=>(∃ g L,e=.returned (.slice (some ⟨g,0,none⟩) (xs.length+1) (xs.length+1))/\w.heap.size<=g/\ai w' g 70 (L.map f')/\L.length=xs.length+1/\Wd L/\nv L=nv xs*2^n)/\af w w' :=
 (AO va xs n w ha hn hla).mono fun _ _ h=>⟨let ⟨L,h1,h2,h3,h4,h5⟩:=h.1;⟨w.heap.size,L,h1,Nat.le_refl _,h2,h3,h4,h5⟩,h.2⟩
theorem DD {V bs:List Nat} {s m:Nat} (hs:s<32) (hl:bs.length=m+2) (hV:V.length=m+3) (hw:Wd V) (hwb:Wd bs) (hv:nv V=nv bs*2^s) (h1:2147483648<=bs.getD (m+1) 0*2^s) (h2:bs.getD (m+1) 0*2^s<4294967296) :
  nv (V.take (m+2))=nv bs*2^s/\2147483648<=V.getD (m+1) 0/\nv bs*2^s<4294967296^(m+2):=by
 obtain ⟨_,h3,h4⟩:=fH hwb (m:=m+1) hl
 have hlt:nv bs*2^s<4294967296^(m+2):=by
  have h5:(bs.getD (m+1) 0+1)*2^s<=4294967296:=by
   have e:(4294967296:Nat)=2^(32 - s)*2^s:=by rw [<-Nat.pow_add,show 32 - s+s=32 by omega]
   rw [e] at h2⊢;exact Nat.mul_le_mul_right _ (Nat.lt_of_mul_lt_mul_right h2)
  have h6:nv bs*2^s<(bs.getD (m+1) 0+1)*4294967296^(m+1)*2^s:=(Nat.mul_lt_mul_right (Nat.two_pow_pos _)).2 h4;have h7:(bs.getD (m+1) 0+1)*4294967296^(m+1)*2^s=(bs.getD (m+1) 0+1)*2^s*4294967296^(m+1):=by rw [Nat.mul_assoc,Nat.mul_comm (4294967296^(m+1)),<-Nat.mul_assoc]
  have h8:(bs.getD (m+1) 0+1)*2^s*4294967296^(m+1)<=4294967296*4294967296^(m+1):=Nat.mul_le_mul_right _ h5;rw [Nat.pow_succ,Nat.mul_comm (4294967296^(m+1))];omega
 have hz:=ku (l:=V) (k:=m+2) (by rw [hv];exact hlt);refine ⟨by rw [hz.2,hv],?_,hlt⟩;have hl2:(V.take (m+2)).length=m+2:=by rw [List.length_take];omega
 obtain ⟨_,h5,h6⟩:=fH (hw.take (m+2)) (m:=m+1) hl2;rw [hz.2,hv,cr (by omega)] at h6
 have h7:bs.getD (m+1) 0*2^s*4294967296^(m+1)<=nv bs*2^s:=by
  rw [Nat.mul_assoc,Nat.mul_comm (2^s),<-Nat.mul_assoc];exact Nat.mul_le_mul_right _ h3
 have h8:bs.getD (m+1) 0*2^s*4294967296^(m+1)<(V.getD (m+1) 0+1)*4294967296^(m+1):=by omega
 have h9:=Nat.lt_of_mul_lt_mul_right h8;omega
theorem uQ {U0:List Nat} {A s l1 m L N:Nat} (hs:s<32) (hA:A<4294967296^l1) (hU:nv U0=A*2^s) (hp:U0.length=l1+1) (hL:L+(m+2)=l1+1) (hN:2147483648*4294967296^(m+1)<=N):nv (U0.drop L)<N:=by
 have h1:=fA U0 L (by omega)
 have h2:4294967296^L*nv (U0.drop L)<4294967296^l1*2^s:=by
  have:A*2^s<4294967296^l1*2^s:=(Nat.mul_lt_mul_right (Nat.two_pow_pos _)).2 hA
  omega
 rw [show l1=L+(m+1) by omega,Nat.pow_add,Nat.mul_assoc] at h2;have h3:=Nat.lt_of_mul_lt_mul_left h2;have h4:2^s<=2^31:=Nat.pow_le_pow_right (by omega) (by omega);have h5:4294967296^(m+1)*2^s<=4294967296^(m+1)*2147483648:=Nat.mul_le_mul_left _ (by rw [show (2147483648:Nat)=2^31 by rfl];exact h4);rw [Nat.mul_comm _ 2147483648] at h5;omega
structure ig (U0 U Q:List Nat) (N L p k:Nat):Prop where
 lu:U.length=p
 wu:Wd U
 lq:Q.length=L
 wq:Wd Q
 eq:nv (U0.drop k)=N*nv (Q.drop k)+nv (U.drop k)
 lt:nv (U.drop k)<N
 same:∀ i,i<k->U.getD i 0=U0.getD i 0
theorem ig.step {U0 U Q:List Nat} {N L p j m:Nat} (h:ig U0 U Q N L p (j+1)) (hp:U0.length=p) (hj:j<L) (hjp:j+(m+3)<=p) (hN:N<4294967296^(m+2)) {g:Nat} (hg:g<4294967296) {X:Nat} (hX:X=nv ((U.drop j).take (m+3))) (hgX:g=X / N)
  {U2:List Nat} (hl:U2.length=p) (hw:Wd U2) (hs:∀ i,i<j\/j+(m+3)<=i->U2.getD i 0=U.getD i 0) (hv:nv ((U2.drop j).take (m+3))=X % N):ig U0 U2 (Q.set j g) N L p j:=by
 obtain ⟨h1,h2⟩:=xd (U:=U) (j:=j) (m:=m) (by have:=h.lu;omega) h.lt hN;have hz2:∀ i,j+(m+3)<=i->U2.getD i 0=0:=fun i hi=>by rw [hs i (.inr hi)];exact h2 i hi
 have e2:=Aq (U:=U2) (j:=j) (m:=m) hz2;rw [hv] at e2;have hNp:0<N:=Nat.lt_of_le_of_lt (Nat.zero_le _) h.lt;refine ⟨hl,hw,by rw [List.length_set];exact h.lq,h.wq.set _ _ hg,?_,by rw [e2];exact Nat.mod_lt _ hNp,fun i hi=>by rw [hs i (.inl hi)];exact h.same i (by omega)⟩;rw [e2,aW (l:=U0) (by omega),aW (l:=Q.set j g) (by rw [List.length_set];have:=h.lq;omega),eA (by have:=h.lq;omega),List.drop_set_of_lt (by omega),hgX];refine qj h.eq X ?_;rw [hX,h1,h.same j (by omega)]
theorem AE {S1 S2 b2 M R N:Nat} (h:S2+b2*M=S1+N) (h1:S1+N=R+M) (hS2:S2<M) (hR:R<M):S2=R:=by
 rcases Nat.lt_or_ge b2 2 with h2 | h2
 ·rcases (by omega:b2=0\/b2=1) with rfl | rfl <;> omega
 ·have:2*M<=b2*M:=Nat.mul_le_mul_right _ h2
  omega
theorem vQ {U:List Nat} (h:Wd U) (j k:Nat):nv ((U.drop j).take k)<4294967296^k:=by
 refine Nat.lt_of_lt_of_le (dw ((h.drop j).take k)) (Nat.pow_le_pow_right (by omega) ?_);rw [List.length_take];omega
theorem ig.est {U0 U Q V:List Nat} {N L p j m:Nat} (h:ig U0 U Q N L p (j+1)) (hjp:j+(m+3)<=p) (hN:N<4294967296^(m+2)) (hwV:Wd V) (hlV:m+2<=V.length) (hv:nv (V.take (m+2))=N) (ht:2147483648<=V.getD (m+1) 0) :
  Est N (nv ((U.drop j).take (m+3))) m (V.getD (m+1) 0) (V.getD m 0) (U.getD (j+(m+2)) 0) (U.getD (j+(m+1)) 0) (U.getD (j+m) 0):=by
 have hlu:=h.lu;obtain ⟨h1,_⟩:=xd (U:=U) (j:=j) (m:=m) (by omega) h.lt hN;have h2:=Est.make (V:=V.take (m+2)) (S:=(U.drop j).take (m+3)) (m:=m) (by rw [List.length_take];omega) (hwV.take _) hv (by rw [List.length_take,List.length_drop];omega) ((h.wu.drop j).take _) rfl (by rw [cr (by omega)];exact ht) h1 h.lt (h.wu.getD j);rw [cr (by omega),cr (by omega),cr (by omega),cr (by omega),cr (by omega),dF,dF,dF] at h2;exact h2
theorem ig.start {U0 V:List Nat} {A N L p l1 m s:Nat} (hs:s<32) (hA:A<4294967296^l1) (hU:nv U0=A*2^s) (hp:U0.length=l1+1) (hp2:p=l1+1) (hL:L+(m+2)=l1+1) (hw:Wd U0) (hwV:Wd V) (hlV:m+2<=V.length) (hv:nv (V.take (m+2))=N) (ht:2147483648<=V.getD (m+1) 0):ig U0 U0 (List.replicate L 0) N L p L:=by
 refine ⟨by omega,hw,by simp,Wd.zeros _,by rw [de (l:=List.replicate L 0) (by simp)];simp,uQ hs hA hU hp hL ?_,fun _ _=>rfl⟩;obtain ⟨_,h2,_⟩:=fH (hwV.take (m+2)) (m:=m+1) (by rw [List.length_take];omega);rw [cr (by omega),hv] at h2;exact Nat.le_trans (Nat.mul_le_mul_right _ ht) h2
theorem ig.done {U0 U Q:List Nat} {A B N L p s:Nat} (h:ig U0 U Q N L p 0) (hU:nv U0=A*2^s) (hN:N=B*2^s):A / B=nv Q/\nv U / 2^s=A % B:=by
 have h1:=h.eq;have h2:=h.lt;simp only [List.drop_zero] at h1 h2;rw [hU,hN] at h1;rw [hN] at h2;exact qG h1 h2
theorem yE (va vb:Value) (xs ys:List Nat) (m:Nat) (w:World) (ha:WdsAt w va xs) (hb:WdsAt w vb ys) (hla:xs.length<=274877906944) (hm:(nw (nv ys)).length=m+2) (hle:nv ys<=nv xs) :
  Calls Tryz.prog 177 #[va,vb] w fun e w'=>(∃ v1 v2,e=.returned (.tuple #[v1,v2,.nilIface])/\WdsAt w' v1 (nw (nv xs / nv ys))/\WdsAt w' v2 (nw (nv xs % nv ys)))/\af w w':=by
 have HTA:=ae (fun W (hk:af w W)=>bh va xs W (ha.kept hk));have HTB:=ae (fun W (hk:af w W)=>bh vb ys W (hb.kept hk));obtain ⟨a0,c0,rfl⟩:=ha.shape;obtain ⟨a1,c1,rfl⟩:=hb.shape;obtain ⟨l1,hl1⟩:∃ l1,l1=(nw (nv xs)).length:=⟨_,rfl⟩
 have hl19:l1<=274877906944:=by
  rw [hl1];exact Nat.le_trans (aI.2 (dw ha.wd)) hla
 have hl1m:m+2<=l1:=by
  rcases Nat.lt_or_ge l1 (m+2) with h | h
  ·have:=mj (m:=nv xs) (n:=nv ys) (by omega);omega
  ·exact h
 obtain ⟨A,hA⟩:∃ A,A=nv xs:=⟨_,rfl⟩;obtain ⟨B,hB⟩:∃ B,B=nv ys:=⟨_,rfl⟩;rw [<-hA] at HTA hl1 hle⊢;rw [<-hB] at HTB hm hle⊢;obtain ⟨l2,hl2⟩:∃ l2,l2=m+2:=⟨_,rfl⟩;obtain ⟨m1,hm1⟩:∃ m1,m1=m+1:=⟨_,rfl⟩;obtain ⟨L,hL⟩:∃ L,L+(m+2)=l1+1:=⟨l1+1 - (m+2),by omega⟩;obtain ⟨x,hx⟩:∃ x,x=(nw B).getD m1 0:=⟨_,rfl⟩;have hx9:x<4294967296:=by rw [hx];exact (dT B).getD _
 have hx0:x≠0:=by
  have h:=Bk B;have hne:nw B≠[]:=fun e=>by rw [e] at hm;simp at hm
  have h2:=h hne;rw [List.getLast_eq_getElem] at h2;rw [hx,List.getD_eq_getElem?_getD,hm1,show m+1=(nw B).length - 1 by omega,List.getElem?_eq_getElem (by omega)];exact h2
 obtain ⟨s,hs,hs32,hxs1,hxs2⟩:=qf hx9 hx0
 have HLZ:Hid (∀ W:World,Calls Tryz.prog 234 #[.int .u32 (x:Int)] W fun e w'=>e=.returned (.int .i64 (s:Int))/\w'=W):=ae fun W=>by
  have h:=Tryz.bits_LeadingZeros32 (x:Int) W (by omega) (by omega);simp only [Int.toNat_natCast,hs] at h;exact h
 have hcm:¬ cX A B<0:=by
  rcases Nat.lt_or_ge B A with h | h
  ·rw [eT h];omega
  ·rw [fN (by omega)];omega
 obtain ⟨cm,hcm2⟩:∃ cm,cm=cX A B:=⟨_,rfl⟩;rw [<-hcm2] at hcm;have HCM:=ae hcm2;have HM:=ae hm;have HL1:=ae hl1;have HX:=ae hx;have HXS:=ae (And.intro hxs1 hxs2);have HLE:=ae hle;have HLL:=ae hL;have HL2:=ae hl2;have HM1:=ae hm1;have e21:(l2:Int) - 1=(m1:Int):=by omega
 have e20:(l2:Int) - 2=(m:Int):=by omega
 have hb21:m1<l2:=by omega
 have hb20:m<l2:=by omega
 have hl2n0:((l2:Int) == 0)=false:=by simp;omega
 have hl2n1:((l2:Int) == 1)=false:=by simp;omega
 obtain ⟨p1,hp1⟩:∃ p1,p1=l1+1:=⟨_,rfl⟩;obtain ⟨p2,hp2⟩:∃ p2,p2=l2+1:=⟨_,rfl⟩;have eL:(p1:Int) - (l2:Int)=(L:Int):=by omega
 have hp19:p1<=274877906945:=by omega
 have hL9:L<=274877906945:=by omega
 have hp29:p2<=274877906945:=by omega
 have hl29:l2<=274877906944:=by omega
 have hl2p:l2<=p2:=by omega
 have HP1:=ae hp1;have HP2:=ae hp2;generalize hg0:xs.length=n0 at *;generalize hg1:ys.length=n1 at *;clear hg0 hg1 ha hb hl1 hl1m hA hB hl2 hm1 hL hx hx0 hs hxs1 hxs2 hcm2 hm hle hla hp1 hp2;go_enter Tryz.func177,Tryz.ntmps177;go_wp2_with fail;refine (HTA.out _ (af.refl _)).mono ?_;rintro e w1 ⟨⟨v1,rfl,hv1⟩,hk1⟩;go_wp2_with fail;refine (HTB.out _ hk1).mono ?_;rintro e w2 ⟨⟨v2,rfl,hv2⟩,hk2⟩;have hv1':=hv1.kept hk2;have HK2:=ae (hk1.trans hk2);obtain ⟨a2,c2,rfl⟩:=hv1'.shape;obtain ⟨a3,c3,rfl⟩:=hv2.shape;rw [HM.out,<-HL2.out] at hv2⊢;rw [<-HL1.out] at hv1'⊢;have H1:=ae hv1';have H2:=ae hv2;clear hv1 hv1' hv2 hk1 hk2;obtain ⟨b3,o3,rfl,hc3⟩:=H2.out.get m1 (by rw [HM.out,HM1.out];omega);rw [<-HX.out] at hc3;go_wp2_with fail;refine (dR _ _ _ _ _ H1.out H2.out).mono ?_;rintro e w3 ⟨rfl,hk3⟩;rw [ap,ap,<-HCM.out];have hc3':=hk3.cell hc3;have HK3:=ae hk3;clear hc3 hk3;go_wp2_with fail;refine (HLZ.out _).mono ?_;rintro e w4 ⟨rfl,rfl⟩;go_wp2_with fail;refine (sJ _ _ s _ (H2.out.kept HK3.out) hs32 (by rw [HM.out];omega)).mono ?_;rintro e w5 ⟨⟨gv,V,rfl,hgv,hrv,hlv,hwv,hvv⟩,hk5⟩;rw [HM.out,<-HL2.out,<-HP2.out];go_wp2_with fail;refine (sJ _ _ s _ ((H1.out.kept HK3.out).kept hk5) hs32 (by rw [<-HL1.out];omega)).mono ?_;rintro e w6 ⟨⟨gu,U0,rfl,hgu,hru,hlu,hwu,hvu⟩,hk6⟩;rw [<-HL1.out,<-HP1.out];have HGVU:=ae (Nat.lt_of_lt_of_le hrv.lt hgu)
 have HGV:=ae hgv;have HRV:=ae (hrv.kept hk6);have HRU:=ae hru;have HK6:=ae (hk5.trans hk6);have HV:=ae (And.intro hlv (And.intro hwv hvv));have HU:=ae (And.intro hlu (And.intro hwu hvu));clear hgv hgu hrv hru hk5 hk6 hlv hwv hvv hlu hwu hvu;obtain ⟨N,hN⟩:∃ N,N=B*2^s:=⟨_,rfl⟩;have HN:=ae hN;clear hN
 have HSH:Hid (nv (V.take (m+2))=N/\2147483648<=V.getD (m+1) 0/\N<4294967296^(m+2)):=ae (by
  have h:=DD (bs:=nw B) (V:=V) (m:=m) hs32 HM.out (by rw [HV.out.1,HM.out]) HV.out.2.1 (dT B) HV.out.2.2 (by rw [<-HM1.out,<-HX.out];exact HXS.out.1) (by rw [<-HM1.out,<-HX.out];exact HXS.out.2);rw [ap,<-HN.out] at h;exact h)
 have hlv1:m1<V.length:=by rw [HV.out.1,HM.out,HM1.out];omega
 have hct:=bk HRV.out m1 hlv1;have hcn:=bk HRV.out m (by have:=HM1.out;omega);have htw:=HV.out.2.1.getD m1;have hnw:=HV.out.2.1.getD m;obtain ⟨top,htop⟩:∃ top,top=V.getD m1 0:=⟨_,rfl⟩;obtain ⟨nxt,hnxt⟩:∃ nxt,nxt=V.getD m 0:=⟨_,rfl⟩;rw [<-htop] at hct htw;rw [<-hnxt] at hcn hnw;have htb:2147483648<=top:=by rw [htop,HM1.out];exact HSH.out.2.1
 have HTOP:=ae htop;have HNXT:=ae hnxt;clear htop hnxt hlv1;go_wp2_with fail;go_quiet (fail);go_wp2_with (refine db 27 70 (.int .u32 0) 4 cM Tryz.underlying27 rfl rfl _ _ rfl L rfl rfl (by omega) (by unfold maxLen;omega) ?_;intro w7 hr7 hk7);have HR7:Hid (ai w7 w6.heap.size 70 ((List.replicate L 0).map f')):=ae (da hr7);have HK7:Hid (af w6 w7):=ae (((af.refl w6).drewN _).trans hk7);clear hr7 hk7;have HKW:Hid (af w w7):=ae (((HK2.out.trans HK3.out).trans HK6.out).trans HK7.out)
 have hgw:w.heap.size<=gu:=by
  have h2:=(HK2.out.trans HK3.out).size;have h3:=HGV.out;have h4:=HGVU.out;omega
 have hgq:w.heap.size<=w6.heap.size:=((HK2.out.trans HK3.out).trans HK6.out).size;have hgvu:gv≠gu:=by have:=HGVU.out;omega
 have hguq:gu≠w6.heap.size:=by have:=HRU.out.lt;omega
 have hgvq:gv≠w6.heap.size:=by have:=HRV.out.lt;omega
 have HGW:=ae hgw;have HGQ:=ae hgq;have HGVU:=ae hgvu;have HGUQ:=ae hguq;have HGVQ:=ae hgvq;have HST:Hid (ig U0 U0 (List.replicate L 0) N L p1 L):=ae (ig.start hs32 (A:=A) (l1:=l1) (m:=m) (V:=V) (s:=s) (by rw [HL1.out];exact aI.1 (Nat.le_refl _)) (by have:=HU.out.2.2;rwa [ap] at this) (by rw [HU.out.1,HL1.out]) HP1.out HLL.out HU.out.2.1 HV.out.2.1 (by rw [HV.out.1,HM.out];omega) HSH.out.1 HSH.out.2.1);have HRU7:=ae (HRU.out.kept HK7.out);have HRV7:=ae (HRV.out.kept HK7.out);clear hc3' hct hcn hgw hgq hgvu hguq hgvq HRU HRV;generalize w6.heap.size=gq at *;go_loopg [14] L (fun kx s14 wr=>∃ (k:Nat) (U Q:List Nat),s14=.int .i64 ((k:Int) - 1)/\k<=L/\k<=kx/\Hid (ai wr gu 70 (U.map f'))/\Hid (ai wr gv 70 (V.map f'))/\Hid (ai wr gq 70 (Q.map f'))/\Hid (ig U0 U Q N L p1 k)/\Hid (af w wr))
 case atStart=>exact ⟨L,U0,List.replicate L 0,rfl,Nat.le_refl _,Nat.le_refl _,HRU7,HRV7,HR7,HST,HKW⟩
 case round =>
  clear HRU7 HRV7 HR7 HST HKW HK7 HK6 HK3 HK2;obtain ⟨wo,rfl⟩:∃ wo:World,wo=wr:=⟨_,rfl⟩;obtain ⟨k,U,Q,rfl,hk,hkx,HRU,HRV,HRQ,HD,HK⟩:=hrel;by_cases hk0:k=0
  ·subst hk0;have hdn:=HD.out.done (A:=A) (B:=B) (s:=s) (by have:=HU.out.2.2;rwa [ap] at this) HN.out;have HDN:=ae hdn
   have HQA:Hid (WdsAt wo (.slice (some ⟨gq,0,none⟩) L L) Q):=ae (by
    have h:=eW HRQ.out (c:=L) (by rw [HD.out.lq];exact Nat.le_refl _) (by rw [HD.out.lq];omega) HD.out.wq;rw [HD.out.lq] at h;exact h)
   have HUA:Hid (WdsAt wo (.slice (some ⟨gu,0,none⟩) p1 p1) U):=ae (by
    have h:=eW HRU.out (c:=p1) (by rw [HD.out.lu];exact Nat.le_refl _) (by rw [HD.out.lu];omega) HD.out.wu;rw [HD.out.lu] at h;exact h)
   clear hdn;go_wp2_with fail;refine (bh _ _ _ HQA.out).mono ?_;rintro e w8 ⟨⟨v8,rfl,hv8⟩,hk8⟩;go_wp2_with fail;refine (ze _ _ s _ (HUA.out.kept hk8) hs32).mono ?_;rintro e w9 ⟨⟨v9,L9,rfl,hv9,hq9⟩,hk9⟩;go_wp2_with fail;refine (bh _ _ _ hv9).mono ?_;rintro e w10 ⟨⟨v10,rfl,hv10⟩,hk10⟩;have H8:=ae ((hv8.kept hk9).kept hk10);rw [hq9,HDN.out.2] at hv10;have H10:=ae hv10;have HK10:=ae ((hk8.trans hk9).trans hk10);clear hv8 hv9 hq9 hv10 hk8 hk9 hk10;obtain ⟨a8,c8,rfl⟩:=H8.out.shape;obtain ⟨a10,c10,rfl⟩:=H10.out.shape;go_wp2;go_ret3;exact ⟨⟨_,_,rfl,by rw [HDN.out.1];exact H8.out,H10.out⟩,HK.out.trans HK10.out⟩
  ·obtain ⟨j,rfl⟩:∃ j,k=j+1:=⟨k - 1,by omega⟩;have hml:=HLL.out;have hm2:=HL2.out;have hm3:=HM1.out;have hp1:=HP1.out;have hp2:=HP2.out;obtain ⟨i2,hi2⟩:∃ i2,i2=j+l2:=⟨_,rfl⟩;obtain ⟨i1,hi1⟩:∃ i1,i1=j+m1:=⟨_,rfl⟩;obtain ⟨i0,hi0⟩:∃ i0,i0=j+m:=⟨_,rfl⟩;obtain ⟨i3,hi3⟩:∃ i3,i3=j+p2:=⟨_,rfl⟩;have hjp:j+(m+3)<=p1:=by omega
   have hE:=HD.out.est hjp HSH.out.2.2 HV.out.2.1 (by rw [HV.out.1,HM.out];omega) HSH.out.1 HSH.out.2.1;have hca:=bk HRU.out i2 (by rw [HD.out.lu];omega);have hcb:=bk HRU.out i1 (by rw [HD.out.lu];omega);have hcu:=bk HRU.out i0 (by rw [HD.out.lu];omega);rw [<-hm2,<-hm3,<-hi2,<-hi1,<-hi0,<-HTOP.out,<-HNXT.out] at hE;obtain ⟨X,hX⟩:∃ X,X=nv ((U.drop j).take (m+3)):=⟨_,rfl⟩;rw [<-hX] at hE;generalize U.getD i2 0=a at *;generalize U.getD i1 0=b at *;generalize U.getD i0 0=u2 at *;have ha9:=hE.a2;have hb9:=hE.b2;have hu9:=hE.u22;have HE:=ae hE;have HXX:=ae hX;obtain ⟨hd,hhd⟩:∃ hd,hd=a*4294967296+b:=⟨_,rfl⟩;have eor:=jq a b ha9 hb9;rw [<-hhd] at eor;obtain ⟨hst1,hst2,hst3,hst4⟩:=ii.start hE hhd;obtain ⟨g0,hg0⟩:∃ g0,g0=hd / top:=⟨_,rfl⟩;obtain ⟨r0,hr0⟩:∃ r0,r0=hd % top:=⟨_,rfl⟩;rw [<-hg0,<-hr0] at hst1;rw [<-hr0] at hst2;rw [<-hg0] at hst3;have eg0:(hd:Int) / (top:Int)=(g0:Int):=by rw [hg0];simp
   have er0:(hd:Int) % (top:Int)=(r0:Int):=by rw [hr0];simp
   have HS0:=ae hst1;have HHD:=ae hhd;have ej:((j+1:Nat):Int) - 1=(j:Int):=by omega
   have ei2:(j:Int)+(l2:Int)=(i2:Int):=by omega
   have ei1:(i2:Int) - 1=(i1:Int):=by omega
   have ei0:(i2:Int) - 2=(i0:Int):=by omega
   have ei3:(i2:Int)+1=(i3:Int):=by omega
   have e3j:i3 - j=p2:=by omega
   have hl3:i3<=p1:=by omega
   have hl2p:i2<p1:=by omega
   have hl1p:i1<p1:=by omega
   have hl0p:i0<p1:=by omega
   have hji3:j<=i3:=by omega
   have hjL:(j:Int)<(L:Int):=by omega
   have hjL2:j<L:=by omega
   have hj0:(0:Int)<=(j:Int):=by omega
   have htop0:((top:Int) == 0)=false:=by simp;omega
   have HJP:=ae hjp;rw [ej];clear hE hX hhd hg0 hr0 hst1 ej hml hm2 hm3 hp1 hp2 hi2 hi1 hi0 hi3 hjp hk0;go_wp2_with fail;go_quiet (fail)
   rename Nat=>nq1
   go_wp2_with fail;go_quiet (fail);go_upto_block 2 with fail
   obtain ⟨wd,hwd⟩:∃ wd:World,af wo wd/\wd=(wo.drewN nq1).drewN nq:=⟨_,((af.refl wo).drewN _).drewN _,rfl⟩;rw [<-hwd.2];have HKD:=ae hwd.1;have hcu':=hwd.1.cell hcu;clear hwd hca hcb hcu eg0 eor ha9 hb9;go_cut [16] (fun v16 wx=>∃ g:Nat,v16=.int .u64 g/\g<4294967296/\Hid (X / N<=g/\g<=X / N+1)/\Hid (af wo wx))
   case first =>
    go_wp2_with fail;go_loopg [16,17] g0 (fun kx s16 s17 wr=>∃ (g r:Nat),s16=.int .u64 g/\s17=.int .u64 r/\g<=kx/\g<18446744073709551616/\r<4294967296/\Hid (ii N X top hd g r)/\wd=wr)
    case atStart=>exact ⟨g0,r0,rfl,by rw [er0],Nat.le_refl _,hst3,hst2,HS0,rfl⟩
    case round =>
     obtain ⟨g,r,rfl,rfl,hgk,hg9,hr9,HEA,rfl⟩:=hrel;obtain ⟨r2,hr2⟩:∃ r2,r2=r+top:=⟨_,rfl⟩;obtain ⟨rs,hrs⟩:∃ rs,rs=r*4294967296+u2:=⟨_,rfl⟩;have er2:(r:Int)+(top:Int)=(r2:Int):=by omega
     have hr29:r2<8589934592:=by omega
     by_cases hc:4294967296<=g\/rs<g*nxt
     ·obtain ⟨g',hg',hea⟩:=ii.next HE.out HHD.out HEA.out (by rw [<-hrs];exact hc);rw [<-hr2] at hea;have HEB:=ae hea;have eg:(g:Int) - 1=(g':Int):=by omega
      have hg19:g'<18446744073709551616:=by omega
      have hgm:g'<g:=by omega
      have hg1:(1:Int)<=(g:Int):=by omega
      have hgp:g=g'+1:=hg';have HGP:=ae hgp;clear hgp;by_cases hbr:4294967296<=r2
      ·have HGD:=ae (ii.good HE.out HHD.out hea (.inr hbr));have hgw9:g'<4294967296:=HGD.out.1;have hbr':(4294967296:Int)<=(r2:Int):=by omega
       clear hea hg' hr2;by_cases hc1:4294967296<=g
       ·have hc1':(4294967296:Int)<=(g:Int):=by omega
        clear hc hrs;go_wp2_with fail;go_meet;exact ⟨g',rfl,hgw9,ae HGD.out.2,HKD⟩
       ·have hc1':(g:Int)<4294967296:=by omega
        have hc2:=hc.resolve_left hc1;obtain ⟨gn,hgn⟩:∃ gn,gn=g*nxt:=⟨_,rfl⟩;have egn:(g:Int)*(nxt:Int)=(gn:Int):=by rw [hgn];simp
        have hgn9:gn<18446744073709551616:=by
         have:g*nxt<=4294967295*4294967295:=Nat.mul_le_mul (by omega) (by omega)
         omega
        rw [<-hgn] at hc2;have hb2:decide (rs<gn)=true:=by simpa using hc2
        have hb1:decide ((4294967296:Int)<=(g:Int))=false:=by simp;omega
        have eors:=jq r u2 hr9 hu9;rw [<-hrs] at eors;have hc1'':g<4294967296:=by omega
        clear hc hrs hgn hc1 hc2;go_upto_block 3 with fail
        clear egn hgn9 hb1 hb2 eors hc1'' hc1';go_wp2_with fail;go_meet;exact ⟨g',rfl,hgw9,ae HGD.out.2,HKD⟩
      ·have hb3:decide ((4294967296:Int)<=(r2:Int))=false:=by simp;omega
       have hr2b:r2<4294967296:=by omega
       clear hea hg' hr2 hbr;by_cases hc1:4294967296<=g
       ·have hc1':(4294967296:Int)<=(g:Int):=by omega
        clear hc hrs;go_wp2_with fail;go_roundg g'
        case measure=>omega
        case rel=>exact ⟨g',r2,rfl,rfl,Nat.le_refl _,hg19,hr2b,HEB,rfl⟩
       ·have hc1':(g:Int)<4294967296:=by omega
        have hc2:=hc.resolve_left hc1;obtain ⟨gn,hgn⟩:∃ gn,gn=g*nxt:=⟨_,rfl⟩;have egn:(g:Int)*(nxt:Int)=(gn:Int):=by rw [hgn];simp
        have hgn9:gn<18446744073709551616:=by
         have:g*nxt<=4294967295*4294967295:=Nat.mul_le_mul (by omega) (by omega)
         omega
        rw [<-hgn] at hc2;have hb2:decide (rs<gn)=true:=by simpa using hc2
        have hb1:decide ((4294967296:Int)<=(g:Int))=false:=by simp;omega
        have eors:=jq r u2 hr9 hu9;rw [<-hrs] at eors;have hc1'':g<4294967296:=by omega
        clear hc hrs hgn hc1 hc2;go_upto_block 3 with fail
        clear egn hgn9 hb1 hb2 eors hc1'' hc1';go_wp2_with fail;go_roundg g'
        case measure=>omega
        case rel=>exact ⟨g',r2,rfl,rfl,Nat.le_refl _,hg19,hr2b,HEB,rfl⟩
     ·have hc1:g<4294967296:=by omega
      have hc1':(g:Int)<4294967296:=by omega
      have hc2:g*nxt<=rs:=by omega
      have HGD:=ae (ii.good HE.out HHD.out HEA.out (.inl ⟨hc1,by rw [<-hrs];exact hc2⟩));obtain ⟨gn,hgn⟩:∃ gn,gn=g*nxt:=⟨_,rfl⟩;have egn:(g:Int)*(nxt:Int)=(gn:Int):=by rw [hgn];simp
      have hgn9:gn<18446744073709551616:=by
       have:g*nxt<=4294967295*4294967295:=Nat.mul_le_mul (by omega) (by omega)
       omega
      rw [<-hgn] at hc2;have hb2:decide (rs<gn)=false:=by simp;omega
      have hb1:decide ((4294967296:Int)<=(g:Int))=false:=by simp;omega
      have eors:=jq r u2 hr9 hu9;rw [<-hrs] at eors;clear hc hrs hgn hr2;go_wp2_with fail;go_meet;exact ⟨g,rfl,hc1,ae HGD.out.2,HKD⟩
   case rest =>
    obtain ⟨g,rfl,hg9,HG,HKC⟩:=hcut;have HRUc:=ae (HRU.out.kept HKC.out);have HRVc:=ae (HRV.out.kept HKC.out);have HRQc:=ae (HRQ.out.kept HKC.out);clear hcu' HKD HS0 hst2 hst3 hst4 HRU HRV HRQ;go_wp2_with fail;refine (Cq gu gv j l2 p2 (p1 - j) p2 g U V wc HRUc.out HRVc.out HGVU.out HD.out.wu HV.out.2.1 HP2.out (by rw [HD.out.lu];have:=HJP.out;have:=HL2.out;have:=HP2.out;omega) (by rw [HV.out.1,HM.out,HL2.out];omega) (by omega) (by omega) hg9 (by have:=HJP.out;have:=HL2.out;have:=HP2.out;omega)).mono ?_;rintro e w8 ⟨⟨b8,U8,rfl,hb8,hr8,hw8,hl8,hs8,he8⟩,ho8⟩;have hq3:p2=m+3:=by rw [HP2.out,HL2.out]
    have HP3:=ae hq3;rw [HP3.out,HL2.out,HSH.out.1,<-HXX.out] at he8;rw [HP3.out] at hs8;have hNM:N<4294967296^(m+3):=Nat.lt_trans HSH.out.2.2 (Nat.pow_lt_pow_right (by omega) (by omega));have HNM:=ae hNM;have hde:=xR HE.out.pos he8 (vQ hw8 j (m+3)) (Nat.le_of_lt hNM) hb8 HG.out.1 HG.out.2;have HDE:=ae hde;have HR8:=ae hr8;have HW8:=ae (And.intro hw8 hl8);have HS8:=ae hs8;have HV8:=ae (ho8.row HRVc.out HGVU.out);have HQ8:=ae (ho8.row HRQc.out (fun h=>HGUQ.out h.symm));have HK8:=ae (ho8.toKept (HK.out.trans HKC.out) HGW.out);clear hr8 hw8 hl8 hs8 he8 ho8 hq3 hNM hde;have hjQ:j<Q.length:=by rw [HD.out.lq];exact hjL2
    rcases (by omega:b8=0\/b8=1) with rfl | rfl
    ·obtain ⟨hg1,hv8⟩:=HDE.out.1 rfl;have HNX:=ae (HD.out.step (by rw [HU.out.1,HP1.out,HL1.out]) hjL2 HJP.out HSH.out.2.2 hg9 HXX.out hg1 (by rw [HW8.out.2];exact HD.out.lu) HW8.out.1 HS8.out hv8);have f:=HQ8.out.free j;have hst:=bk HQ8.out j hjQ;have e5:IntKind.u32.wrap (g:Int)=(g:Int):=by rw [IntKind.wrap_u32];omega
     clear hg1 hv8 hb8 hjQ;go_wp2;go_roundg j
     case measure=>omega
     case rel=>exact ⟨j,U8,Q.set j g,rfl,by omega,Nat.le_refl _,ae (((az.refl gq w8).store j _).row HR8.out HGUQ.out),ae (((az.refl gq w8).store j _).row HV8.out HGVQ.out),ae (bj HQ8.out j g),HNX,ae (HK8.out.store HGQ.out j _)⟩
    ·obtain ⟨hg1,hv8⟩:=HDE.out.2 rfl;obtain ⟨g1,hg2⟩:∃ g1,g1=X / N:=⟨_,rfl⟩;rw [<-hg2] at hg1;have hg19:g1<4294967296:=by omega
     have eg1:(g:Int) - 1=(g1:Int):=by omega
     have hgge:(1:Int)<=(g:Int):=by omega
     have HG2:=ae hg2;have HV9:=ae hv8;clear hg1 hg2 hv8 hb8;go_wp2_with fail;refine (AD gu gv j l2 p2 (p1 - j) p2 U8 V w8 HR8.out HV8.out HGVU.out HW8.out.1 HV.out.2.1 HP2.out (by rw [HW8.out.2,HD.out.lu];have:=HJP.out;have:=HL2.out;have:=HP2.out;omega) (by rw [HV.out.1,HM.out,HL2.out];omega) (by omega) (by omega)).mono ?_;rintro e w9 ⟨⟨b9,U9,rfl,hr9,hw9,hl9,hs9,he9⟩,ho9⟩;rw [HP3.out,HL2.out,HSH.out.1] at he9;rw [HP3.out] at hs9;have hge:=AE he9 HV9.out (vQ hw9 j (m+3)) (Nat.lt_trans (Nat.mod_lt _ HE.out.pos) HNM.out);have HNX:=ae (HD.out.step (by rw [HU.out.1,HP1.out,HL1.out]) hjL2 HJP.out HSH.out.2.2 hg19 HXX.out HG2.out (by rw [hl9,HW8.out.2];exact HD.out.lu) hw9 (fun i hi=>(hs9 i hi).trans (HS8.out i hi)) hge);have HR9:=ae hr9;have HVV9:=ae (ho9.row HV8.out HGVU.out);have HQ9:=ae (ho9.row HQ8.out (fun h=>HGUQ.out h.symm));have HK9:=ae (ho9.toKept HK8.out HGW.out);have f:=HQ9.out.free j;have hst:=bk HQ9.out j hjQ;have e5:IntKind.u32.wrap (g1:Int)=(g1:Int):=by rw [IntKind.wrap_u32];omega
     clear hr9 hw9 hl9 hs9 he9 ho9 hge hjQ;go_wp2;go_roundg j
     case measure=>omega
     case rel=>exact ⟨j,U9,Q.set j g1,rfl,by omega,Nat.le_refl _,ae (((az.refl gq w9).store j _).row HR9.out HGUQ.out),ae (((az.refl gq w9).store j _).row HVV9.out HGVQ.out),ae (bj HQ9.out j g1),HNX,ae (HK9.out.store HGQ.out j _)⟩
theorem cH {xs:List Nat} (h:Wd xs):(nw (nv xs)).length<=xs.length:=aI.2 (dw h)
theorem yD (va vb:Value) (xs ys:List Nat) (w:World) (ha:WdsAt w va xs) (hb:WdsAt w vb ys) (h0:nv ys≠0) (hlt:nv xs<nv ys) :
  Calls Tryz.prog 177 #[va,vb] w fun e w'=>(∃ v1 v2,e=.returned (.tuple #[v1,v2,.nilIface])/\WdsAt w' v1 (nw (nv xs / nv ys))/\WdsAt w' v2 (nw (nv xs % nv ys)))/\af w w':=by
 have HTA:=ae (fun W (hk:af w W)=>bh va xs W (ha.kept hk));have HTB:=ae (fun W (hk:af w W)=>bh vb ys W (hb.kept hk));have HLB:Hid ((nw (nv ys)).length≠0):=ae fun h=>h0 (cQ.1 (List.eq_nil_of_length_eq_zero h))
 obtain ⟨a0,c0,rfl⟩:=ha.shape;obtain ⟨a1,c1,rfl⟩:=hb.shape;have HQ:Hid (nv xs / nv ys=0/\nv xs % nv ys=nv xs):=ae ⟨Nat.div_eq_of_lt hlt,Nat.mod_eq_of_lt hlt⟩;have HC:Hid (cX (nv xs) (nv ys)=-1):=ae (fO hlt);generalize nv xs=A at *;generalize nv ys=B at *;generalize xs.length=n0 at *;generalize ys.length=n1 at *;clear ha hb h0 hlt;go_enter Tryz.func177,Tryz.ntmps177;go_wp2_with fail;refine (HTA.out _ (af.refl _)).mono ?_;rintro e w1 ⟨⟨v1,rfl,hv1⟩,hk1⟩;go_wp2_with fail;refine (HTB.out _ hk1).mono ?_;rintro e w2 ⟨⟨v2,rfl,hv2⟩,hk2⟩;have H1:=ae (hv1.kept hk2);have H2:=ae hv2;have HK2:=ae (hk1.trans hk2);clear hv1 hv2 hk1 hk2;obtain ⟨a2,c2,rfl⟩:=H1.out.shape;obtain ⟨a3,c3,rfl⟩:=H2.out.shape;obtain ⟨l2,hl2⟩:∃ l2,l2=(nw B).length:=⟨_,rfl⟩;have hn2:((l2:Int) == 0)=false:=by have:=HLB.out;simp;omega
 have HH2:=ae hl2;rw [<-hl2];clear hl2;go_wp2_with fail;rw [HH2.out];refine (dR _ _ _ _ _ H1.out H2.out).mono ?_;rintro e w3 ⟨rfl,hk3⟩;rw [ap,ap,HC.out];have HK3:=ae hk3;clear hk3 hn2;obtain ⟨l1,hl1⟩:∃ l1,l1=(nw A).length:=⟨_,rfl⟩;have HH1:=ae hl1;rw [<-hl1];generalize (nw B).length=l3 at *;clear hl1;go_wp2;go_ret3;exact ⟨⟨_,_,rfl,by rw [HQ.out.1,bR];exact WdsAt.nil _,by rw [HQ.out.2,HH1.out];exact H1.out.kept HK3.out⟩,HK2.out.trans HK3.out⟩
theorem Bg (va vb:Value) (xs ys:List Nat) (w:World) (ha:WdsAt w va xs) (hb:WdsAt w vb ys) (h1:(nw (nv ys)).length=1) (hle:nv ys<=nv xs) :
  Calls Tryz.prog 177 #[va,vb] w fun e w'=>(∃ v1 v2,e=.returned (.tuple #[v1,v2,.nilIface])/\WdsAt w' v1 (nw (nv xs / nv ys))/\WdsAt w' v2 (nw (nv xs % nv ys)))/\af w w':=by
 have HTA:=ae (fun W (hk:af w W)=>bh va xs W (ha.kept hk));have HTB:=ae (fun W (hk:af w W)=>bh vb ys W (hb.kept hk));obtain ⟨a0,c0,rfl⟩:=ha.shape;obtain ⟨a1,c1,rfl⟩:=hb.shape;obtain ⟨d,hd⟩:∃ d,d=(nw (nv ys)).getD 0 0:=⟨_,rfl⟩
 have hdB:nv ys=d:=by
  have h2:=ap (nv ys);rw [hd];cases h3:nw (nv ys) with
  | nil=>rw [h3] at h1;simp at h1
  | cons x l =>
   rw [h3] at h1 h2
   have:l=[]:=by cases l with
    | nil=>rfl
    | cons _ _=>simp at h1
   subst this;rw [<-h2];simp [nv]
 have hd9:d<4294967296:=by rw [hd];exact (dT _).getD _
 have hd0:0<d:=by
  rcases Nat.eq_zero_or_pos d with h | h
  ·rw [hdB,h,bR] at h1;simp at h1
  ·exact h
 obtain ⟨c,hc⟩:∃ c,c=cX (nv xs) (nv ys):=⟨_,rfl⟩
 have hcm:¬ c<0:=by
  rw [hc];rcases Nat.lt_or_ge (nv ys) (nv xs) with h | h
  ·rw [eT h];omega
  ·rw [fN (by omega)];omega
 have HD:=ae hd;have HDB:=ae hdB;have HH1:=ae h1;have HC:=ae hc;generalize nv xs=A at *;generalize nv ys=B at *;generalize xs.length=n0 at *;generalize ys.length=n1 at *;obtain ⟨r,hr⟩:∃ r,r=A % d:=⟨_,rfl⟩;have hr9:r<4294967296:=by have:=Nat.mod_lt A hd0;omega
 have HR:=ae hr;clear ha hb hle hd hdB h1 hc hr;go_enter Tryz.func177,Tryz.ntmps177;go_wp2_with fail;refine (HTA.out _ (af.refl _)).mono ?_;rintro e w1 ⟨⟨v1,rfl,hv1⟩,hk1⟩;go_wp2_with fail;refine (HTB.out _ hk1).mono ?_;rintro e w2 ⟨⟨v2,rfl,hv2⟩,hk2⟩;have H1:=ae (hv1.kept hk2);have H2:=ae hv2;have HK2:=ae (hk1.trans hk2);clear hv1 hv2 hk1 hk2;obtain ⟨a2,c2,rfl⟩:=H1.out.shape;obtain ⟨a3,c3,hv3⟩:=H2.out.shape;rw [HH1.out] at hv3;subst hv3;obtain ⟨b3,o3,rfl,hc3⟩:=H2.out.get 0 (by rw [HH1.out];omega);rw [<-HD.out,Nat.add_zero] at hc3;have HC3:=ae hc3;clear hc3;go_wp2_with fail;refine (dR _ _ _ _ _ H1.out H2.out).mono ?_;rintro e w3 ⟨rfl,hk3⟩;rw [ap,ap,<-HC.out];have hc3:=hk3.cell HC3.out;have HK3:=ae hk3;have HSM:=ae (qH _ _ d _ (H1.out.kept hk3) hd0 hd9);clear hk3;generalize (nw A).length=l1 at *;go_wp2_with fail;refine HSM.out.mono ?_;rintro e w4 ⟨⟨v4,rfl,hv4⟩,hk4⟩;rw [ap] at hv4⊢;rw [<-HR.out];have H4:=ae hv4;have HK4:=ae hk4;clear hv4 hk4 hc3 hcm;obtain ⟨a4,c4,rfl⟩:=H4.out.shape;generalize (nw (A / d)).length=l4 at *;go_wp2_with fail;refine (xh r _ (by omega)).mono ?_;rintro e w5 ⟨⟨v5,rfl,hv5⟩,hk5⟩;have H5:=ae hv5;have HK5:=ae hk5;clear hv5 hk5;obtain ⟨a5,c5,rfl⟩:=H5.out.shape;go_wp2;go_ret3;exact ⟨⟨_,_,rfl,by rw [HDB.out];exact H4.out.kept HK5.out,by rw [HDB.out,<-HR.out];exact H5.out⟩,((HK2.out.trans HK3.out).trans HK4.out).trans HK5.out⟩
theorem oy (va vb:Value) (xs ys:List Nat) (w:World) (ha:WdsAt w va xs) (hb:WdsAt w vb ys) (hla:xs.length<=274877906944) (h0:nv ys≠0) :
  Calls Tryz.prog 177 #[va,vb] w fun e w'=>(∃ v1 v2,e=.returned (.tuple #[v1,v2,.nilIface])/\WdsAt w' v1 (nw (nv xs / nv ys))/\WdsAt w' v2 (nw (nv xs % nv ys)))/\af w w':=by
 rcases Nat.lt_or_ge (nv xs) (nv ys) with h | h
 ·exact yD va vb xs ys w ha hb h0 h
 ·have hn:(nw (nv ys)).length≠0:=fun h=>h0 (cQ.1 (List.eq_nil_of_length_eq_zero h))
  by_cases h1:(nw (nv ys)).length=1
  ·exact Bg va vb xs ys w ha hb h1 h
  ·exact yE va vb xs ys ((nw (nv ys)).length - 2) w ha hb hla (by omega) h
theorem sZ (va vb:Value) (xs ys:List Nat) (w:World) (ha:WdsAt w va xs) (hb:WdsAt w vb ys) (hla:xs.length<=274877906944) (hlb:ys.length<=274877906944) :
  Calls Tryz.prog 115 #[va,vb] w fun e w'=>(∃ v,e=.returned v/\WdsAt w' v (nw (Nat.gcd (nv xs) (nv ys))))/\af w w':=by
 have HTA:=ae (fun W (hk:af w W)=>bh va xs W (ha.kept hk));have HTB:=ae (fun W (hk:af w W)=>bh vb ys W (hb.kept hk));obtain ⟨a0,c0,rfl⟩:=ha.shape;obtain ⟨a1,c1,rfl⟩:=hb.shape;have HLA:Hid ((nw (nv xs)).length<=274877906944):=ae (Nat.le_trans (cH ha.wd) hla);have HLB:Hid ((nw (nv ys)).length<=274877906944):=ae (Nat.le_trans (cH hb.wd) hlb);generalize nv xs=A at *;generalize nv ys=B at *;generalize xs.length=n0 at *;generalize ys.length=n1 at *;clear ha hb hla hlb;go_enter Tryz.func115,Tryz.ntmps115;go_wp2_with fail;refine (HTA.out _ (af.refl _)).mono ?_;rintro e w1 ⟨⟨v1,rfl,hv1⟩,hk1⟩;go_wp2_with fail;refine (HTB.out _ hk1).mono ?_;rintro e w2 ⟨⟨v2,rfl,hv2⟩,hk2⟩;have H1:=ae (hv1.kept hk2);have H2:=ae hv2;have HK2:=ae (hk1.trans hk2);clear hv1 hv2 hk1 hk2;go_wp2_with fail;go_loopg [0,1] B (fun kx s0 s1 wr=>∃ (m n:Nat),Hid (WdsAt wr s0 (nw m))/\Hid (WdsAt wr s1 (nw n))/\n<=kx/\Hid (Nat.gcd m n=Nat.gcd A B)/\Hid ((nw m).length<=274877906944/\(nw n).length<=274877906944)/\Hid (af w wr))
 case atStart=>exact ⟨A,B,H1,H2,Nat.le_refl _,ae rfl,ae ⟨HLA.out,HLB.out⟩,HK2⟩
 case round =>
  obtain ⟨m,n,HS0,HS1,hkx,HG,HL,HK⟩:=hrel;obtain ⟨a2,c2,rfl⟩:=HS0.out.shape;obtain ⟨a3,c3,rfl⟩:=HS1.out.shape;by_cases hn:n=0
  ·have HR:Hid (nw m=nw (Nat.gcd A B)):=ae (by rw [<-HG.out,hn,Nat.gcd_zero_right]);have hl:(nw n).length=0:=by rw [hn,bR];rfl
   rw [hl];clear hl hn;generalize hlm:(nw m).length=lm at *;have HLM:=ae hlm;clear hlm;go_wp2;go_ret;exact ⟨⟨_,rfl,by rw [<-HR.out,<-HLM.out] ;first | exact HS0.out | (rw [HLM.out];exact HS0.out)⟩,HK.out⟩
  ·have hl:(nw n).length≠0:=fun h=>hn (cQ.1 (List.eq_nil_of_length_eq_zero h))
   have HDV:=ae (oy _ _ _ _ _ HS0.out HS1.out HL.out.1 (by rw [ap];exact hn));obtain ⟨r,hr⟩:∃ r,r=m % n:=⟨_,rfl⟩;have hrn:r<n:=by rw [hr];exact Nat.mod_lt _ (by omega)
   have HN:Hid (Nat.gcd n r=Nat.gcd A B):=ae (by rw [<-HG.out,hr,Nat.gcd_comm n,<-Nat.gcd_rec,Nat.gcd_comm]);have HLR:Hid ((nw n).length<=274877906944/\(nw r).length<=274877906944):=ae ⟨HL.out.2,Nat.le_trans (aI.2 (Nat.lt_trans hrn (aI.1 (Nat.le_refl _)))) HL.out.2⟩;have HR:=ae hr;obtain ⟨ln,hln⟩:∃ ln,ln=(nw n).length:=⟨_,rfl⟩;have hlp:(0:Int)<(ln:Int):=by omega
   have hlp2:0<ln:=by omega
   obtain ⟨lm,hlm⟩:∃ lm,lm=(nw m).length:=⟨_,rfl⟩;rw [<-hln,<-hlm] at HDV⊢;rw [<-hln] at HS1;clear hl hr hn hln hlm;go_wp2_with fail;refine HDV.out.mono ?_;rintro e w3 ⟨⟨v3,v4,rfl,hv3,hv4⟩,hk3⟩;rw [ap,ap,<-HR.out] at hv4;have H4:=ae hv4;have HS1':=ae (HS1.out.kept hk3);have HK3:=ae (HK.out.trans hk3);clear hv3 hv4 hk3;go_wp2_with fail;go_roundg r
   case measure=>omega
   case rel=>exact ⟨n,r,HS1',H4,Nat.le_refl _,HN,HLR,HK3⟩
theorem yC (va:Value) (xs:List Nat) (w:World) (ha:WdsAt w va xs) :
  Calls Tryz.prog 206 #[va] w fun e w'=>(∃ k:Nat,e=.returned (.int .i64 k)/\(k=0 ↔ nv xs=0))/\w'=w:=by
 have HA:=ae ha;obtain ⟨a0,c0,rfl⟩:=ha.shape;obtain ⟨n,hn⟩:∃ n,n=xs.length:=⟨_,rfl⟩;have hn9:n<=1099511627776:=by rw [hn];exact ha.len
 rw [<-hn] at HA⊢;have HN:=ae hn;clear ha hn;go_enter Tryz.func206,Tryz.ntmps206;go_wp2_with fail;go_loopg [3] n (fun kx s3 wr=>∃ k:Nat,s3=.int .i64 ((k:Int) - 1)/\k<=n/\k<=kx/\Hid (∀ i,k<=i->xs.getD i 0=0)/\w=wr)
 case atStart=>exact ⟨n,rfl,Nat.le_refl _,Nat.le_refl _,ae (fun i hi=>by have:=HN.out;simp [List.getD_eq_getElem?_getD,show xs.length<=i by omega]),rfl⟩
 case round =>
  obtain ⟨k,rfl,hk,hkx,HZ,rfl⟩:=hrel;by_cases hk0:k=0
  ·subst hk0;have HV:Hid (nv xs=0):=ae (oD xs fun i=>HZ.out i (by omega));go_wp2;go_ret;exact ⟨⟨0,rfl,by simp [HV.out]⟩,rfl⟩
  ·obtain ⟨j,rfl⟩:∃ j,k=j+1:=⟨k - 1,by omega⟩;obtain ⟨b,o,rfl,hc⟩:=HA.out.get j (by have:=HN.out;omega);have hx9:=HA.out.wd.getD j;obtain ⟨x,hx⟩:∃ x,x=xs.getD j 0:=⟨_,rfl⟩;rw [<-hx] at hc hx9;have e1:((j+1:Nat):Int) - 1=(j:Int):=by omega
   have hj0:(0:Int)<=(j:Int):=by omega
   have hjn:(j:Int)<(n:Int):=by omega
   have HX:=ae hx;rw [e1];clear hx e1 hk0;by_cases hx0:x=0
   ·subst hx0;go_wp2_with fail;go_roundg j
    case measure=>omega
    case rel=>exact ⟨j,rfl,by omega,Nat.le_refl _,ae (fun i hi=>by
     by_cases h:i=j
     ·rw [h];exact HX.out.symm
     ·exact HZ.out i (by omega)),rfl⟩
   ·obtain ⟨p,hp,_⟩:=pL (x:=x) (Nat.lt_of_lt_of_le hx9 (by omega)) hx0;have hp32:p+1<=32:=by rw [<-hp];exact Lib.bitLen_le x 32 (by omega) (by rw [show (2:Nat)^32=4294967296 by rfl];exact hx9)
    have HB:Hid (Calls Tryz.prog 201 #[.int .u32 (x:Int)] w fun e w'=>e=.returned (.int .i64 ((p+1:Nat):Int))/\w'=w):=ae (by
     have h:=Tryz.bits_Len32 (x:Int) w (by omega) (by omega);simp only [Int.toNat_natCast,hp] at h;exact h)
    have hb:((x:Int) == 0)=false:=by simp;exact hx0
    have hb':((x:Int) != 0)=true:=by simp;exact hx0
    have HNE:Hid (nv xs≠0):=ae fun h=>hx0 (by rw [HX.out];exact oE h j)
    obtain ⟨q,hq⟩:∃ q,q=p+1:=⟨_,rfl⟩;rw [<-hq] at HB hp32;obtain ⟨t,ht⟩:∃ t,t=32*j:=⟨_,rfl⟩;have et:32*(j:Int)=(t:Int):=by omega
    have ht9:t<=35184372088832:=by omega
    obtain ⟨z,hz⟩:∃ z,z=t+q:=⟨_,rfl⟩;have ez:(t:Int)+(q:Int)=(z:Int):=by omega
    have hz9:z<=35184372088864:=by omega
    have HZ0:Hid (z≠0):=ae (by omega);clear hp hq ht hz hx0;go_wp2_with (go_at_call 201;(with_reducible refine HB.out.mono ?_);rintro e w3 ⟨rfl,rfl⟩);go_ret;exact ⟨⟨z,rfl,⟨fun h=>absurd h HZ0.out,fun h=>absurd h HNE.out⟩⟩,rfl⟩
def RatAt (w:World) (v:Value) (r:Rw):Prop:=∃ u1 u2,v=.agg #[.bool r.neg,u1,u2]/\WdsAt w u1 r.num/\WdsAt w u2 r.den
theorem RatAt.kept {w w':World} {v:Value} {r:Rw} (h:RatAt w v r) (hk:af w w'):RatAt w' v r:=by
 obtain ⟨u1,u2,h1,h2,h3⟩:=h;exact ⟨u1,u2,h1,h2.kept hk,h3.kept hk⟩
theorem RatAt.ok {w:World} {v:Value} {r:Rw} (h:RatAt w v r):r.Ok:=by obtain ⟨u1,u2,_,h2,h3⟩:=h;exact ⟨h2.wd,h3.wd⟩
def Rw.Short (r:Rw) (n:Nat):Prop:=r.num.length<=n/\r.den.length<=n
theorem RatAt.zero (w:World):RatAt w (.agg #[.bool false,.slice none 0 0,.slice none 0 0]) ⟨false,[],[]⟩:=⟨_,_,rfl,WdsAt.nil w,WdsAt.nil w⟩
theorem iY (w:World):Calls Tryz.prog 93 #[] w fun e w'=>(∃ v,e=.returned v/\WdsAt w' v [1])/\af w w':=by
 go_enter Tryz.func93,Tryz.ntmps93;go_wp2;go_ret;exact ⟨⟨_,rfl,lC w 1 (by omega)⟩,(af.refl _).alloc _⟩
theorem oZ (v:Value) (xs:List Nat) (w:World) (hv:WdsAt w v xs):Calls Tryz.prog 114 #[v] w fun e w'=>e=.returned (.bool (bG xs))/\w'=w:=by
 obtain ⟨a,c,rfl⟩:=hv.shape;have hl:=hv.len;obtain ⟨n,hn⟩:∃ n,n=xs.length:=⟨_,rfl⟩;rw [<-hn] at hv hl⊢;by_cases h0:n=0
 ·have hp:bG xs=false:=by unfold bG;rw [<-hn,h0];rfl
  rw [hp];subst h0;clear hv hn hp;go_enter Tryz.func114,Tryz.ntmps114;go_wp2;go_ret;exact ⟨rfl,rfl⟩
 ·obtain ⟨m,hm⟩:∃ m,n=m+1:=⟨n - 1,by omega⟩;obtain ⟨b,o,rfl,hc⟩:=hv.get m (by omega);obtain ⟨x,hx⟩:∃ x,x=xs.getD m 0:=⟨_,rfl⟩
  have hp:bG xs=!((x:Int) == 0):=by
   unfold bG;rw [<-hn,hm,Nat.add_sub_cancel,<-hx];by_cases h:x=0
   ·simp [h]
   ·have:((x:Int) == 0)=false:=by simp;exact h
    simp [h,this]
  rw [hp];rw [<-hx] at hc;have e1:(n:Int) - 1=(m:Int):=by omega
  have hp0:(0:Int)<(n:Int):=by omega
  have hp1:0<n:=by omega
  have hmn:m<n:=by omega
  have hmn':(m:Int)<(n:Int):=by omega
  obtain ⟨bx,hbx⟩:∃ bx,((x:Int) == 0)=bx:=⟨_,rfl⟩;rw [hbx];clear hv hn hp hx hm h0;cases bx with
  | true =>
   have hbn:((x:Int) != 0)=false:=by simp [bne,hbx]
   go_enter Tryz.func114,Tryz.ntmps114;go_wp2;go_ret;exact ⟨by first | rfl | simp,rfl⟩
  | false =>
   have hbn:((x:Int) != 0)=true:=by simp [bne,hbx]
   go_enter Tryz.func114,Tryz.ntmps114;go_wp2;go_ret;exact ⟨by first | rfl | simp,rfl⟩
theorem CZ (g:Nat):(cX g 1 == 0)=(g == 1):=by
 rcases Nat.lt_trichotomy g 1 with h | h | h
 ·rw [fO h]
  have:(g == 1)=false:=by simp;omega
  rw [this];rfl
 ·rw [fN h];simp [h]
 ·rw [eT h]
  have:(g == 1)=false:=by simp;omega
  rw [this];rfl
theorem hJ (v:Value) (r:Rw) (w:World) (hv:RatAt w v r) (hs:r.Short 274877906944):Calls Tryz.prog 68 #[v] w fun e w'=>e=.returned (.bool (bn r))/\af w w':=by
 obtain ⟨neg,num,den⟩:=r;obtain ⟨u1,u2,rfl,h1,h2⟩:=hv;obtain ⟨hs1,hs2⟩:=hs;simp only at h1 h2 hs1 hs2;obtain ⟨a1,c1,rfl⟩:=h1.shape;obtain ⟨a2,c2,rfl⟩:=h2.shape;obtain ⟨n1,hn1⟩:∃ n1,n1=num.length:=⟨_,rfl⟩;obtain ⟨n2,hn2⟩:∃ n2,n2=den.length:=⟨_,rfl⟩;rw [<-hn1] at h1⊢;rw [<-hn2] at h2⊢;have HR:=ae (ai.made w #[.bool neg,.slice a1 n1 c1,.slice a2 n2 c2] 29);have HK0:Hid (af w (w.alloc (.cells #[.bool neg,.slice a1 n1 c1,.slice a2 n2 c2] 29))):=ae ((af.refl w).alloc _);have H1:=ae h1;have H2:=ae h2;by_cases he:num=[]/\den=[]
 ·have hV:bn ⟨neg,num,den⟩=!neg:=by unfold bn;rw [if_pos he]
  have e1:n1=0:=by rw [hn1,he.1];rfl
  have e2:n2=0:=by rw [hn2,he.2];rfl
  rw [hV];subst e1 e2;clear h1 h2 hn1 hn2 hV he HR;go_enter Tryz.func68,Tryz.ntmps68;go_wp2;go_ret;exact ⟨rfl,HK0.out⟩
 ·have hV:bn ⟨neg,num,den⟩=(bG num&&bG den&&(Nat.gcd (nv num) (nv den) == 1)):=by unfold bn;rw [if_neg he]
  rw [hV];have HP1:=ae (fun W (hk:af w W)=>oZ _ num W (h1.kept hk));have HP2:=ae (fun W (hk:af w W)=>oZ _ den W (h2.kept hk));have HGC:=ae (fun W (hk:af w W)=>sZ _ _ num den W (h1.kept hk) (h2.kept hk) hs1 hs2);generalize bG den=p2 at *;obtain ⟨p1,hp1⟩:∃ p1,p1=bG num:=⟨_,rfl⟩;rw [<-hp1] at HP1⊢
  have hc:(n1≠0)\/(n1=0/\n2≠0/\p1=false):=by
   by_cases h:n1=0
   ·refine .inr ⟨h,fun h3=>he ⟨List.eq_nil_of_length_eq_zero (hn1.symm.trans h),List.eq_nil_of_length_eq_zero (hn2.symm.trans h3)⟩,?_⟩;rw [hp1,List.eq_nil_of_length_eq_zero (hn1.symm.trans h)];rfl
   ·exact .inl h
  generalize Nat.gcd (nv num) (nv den)=g at *
  have HG1:Hid (∀ W v1 v2,WdsAt W v1 (nw g)->WdsAt W v2 [1]->Calls Tryz.prog 69 #[v1,v2] W fun e w'=>e=.returned (.int .i64 (cX g 1))/\af W w'):=ae fun W v1 v2 k1 k2=>by
   have h:=dR v1 v2 _ _ W k1 k2;rw [ap] at h;exact h
  obtain ⟨bg,hbg⟩:∃ bg,(g == 1)=bg:=⟨_,rfl⟩;have hcm:=CZ g;rw [hbg] at hcm⊢;obtain ⟨cg,hcg⟩:∃ cg,cg=cX g 1:=⟨_,rfl⟩;rw [<-hcg] at hcm HG1;clear h1 h2 hn1 hn2 hV he hp1 hbg hcg hs1 hs2;rcases hc with hc | ⟨hc,hc2,rfl⟩
  ·have hb1:((n1:Int) == 0)=false:=by simp;exact hc
   clear hc;cases p1 with
   | false =>
    go_enter Tryz.func68,Tryz.ntmps68;go_wp2_with (go_at_call 114;(with_reducible refine (HP1.out _ HK0.out).mono ?_);rintro e w2 ⟨rfl,rfl⟩);go_ret;exact ⟨by simp,HK0.out⟩
   | true =>
    cases p2 with
    | false =>
     go_enter Tryz.func68,Tryz.ntmps68;go_wp2_with (first | (go_at_call 114;(with_reducible refine (HP1.out _ HK0.out).mono ?_);rintro e w2 ⟨rfl,rfl⟩) | (go_at_call 114;(with_reducible refine (HP2.out _ HK0.out).mono ?_);rintro e w2 ⟨rfl,rfl⟩));go_ret;exact ⟨by simp,HK0.out⟩
    | true =>
     go_enter Tryz.func68,Tryz.ntmps68
     go_wp2_with (first
      | (go_at_call 114;(with_reducible refine (HP1.out _ HK0.out).mono ?_);rintro e w2 ⟨rfl,rfl⟩)
      | (go_at_call 114;(with_reducible refine (HP2.out _ HK0.out).mono ?_);rintro e w2 ⟨rfl,rfl⟩)
      | (go_at_call 115;(with_reducible refine (HGC.out _ HK0.out).mono ?_);rintro e w2 ⟨⟨vg,rfl,hvg⟩,hk2⟩;have HVG:=ae hvg;have HK2:=ae (HK0.out.trans hk2);clear hvg hk2)
      | (go_at_call 93;(with_reducible refine (iY _).mono ?_);rintro e w3 ⟨⟨vo,rfl,hvo⟩,hk3⟩;have HVG3:=ae (HVG.out.kept hk3);have HVO:=ae hvo;have HK3:=ae (HK2.out.trans hk3);clear hvo hk3)
      | (go_at_call 69;(with_reducible refine (HG1.out _ _ _ HVG3.out HVO.out).mono ?_);rintro e w4 ⟨rfl,hk4⟩;have HK4:=ae (HK3.out.trans hk4);clear hk4))
     go_ret;exact ⟨by simp,HK4.out⟩
  ·have hb1:((n2:Int) == 0)=false:=by simp;exact hc2
   subst hc;clear hc2;go_enter Tryz.func68,Tryz.ntmps68;go_wp2_with (go_at_call 114;(with_reducible refine (HP1.out _ HK0.out).mono ?_);rintro e w2 ⟨rfl,rfl⟩);go_ret;exact ⟨by simp,HK0.out⟩
def bo (w:World) (g:Nat) (xs:List Value):Prop:=∃ cur e,w.heap[g]?=some (.cells cur e (0,0))/\cur.toList=xs
theorem bo.made (w:World) (cs:Array Value) (e:TypeId):bo (w.alloc (.cells cs e)) w.heap.size cs.toList:=⟨cs,e,heap_alloc_new w _,rfl⟩
theorem bo.lt {w:World} {g:Nat} {xs:List Value} (h:bo w g xs):g<w.heap.size:=by
 obtain ⟨cur,e,h1,_⟩:=h;rcases Nat.lt_or_ge g w.heap.size with h2 | h2
 ·exact h2
 ·simp [Array.getElem?_eq_none h2] at h1
theorem bo.kept {w w':World} {g:Nat} {xs:List Value} (h:bo w g xs) (hk:af w w'):bo w' g xs:=by
 have hl:=h.lt;obtain ⟨cur,e,h1,h2⟩:=h;exact ⟨cur,e,(hk.block g hl).trans h1,h2⟩
theorem bo.only {w:World} {g i:Nat} {xs:List Value} {u:Value} (h:bo w g xs) (hc:w.cell? ⟨g,i,none⟩=some u):u∈xs:=by
 obtain ⟨arr,e,h1,h2⟩:=h;simp only [World.cell?,h1] at hc;rw [<-h2];have:=Array.mem_of_getElem? hc;simpa using this
theorem WdsAt.apart {w w':World} {g:Nat} {v:Value} {xs:List Nat} {row:List Value} (h:WdsAt w v xs) (hr:bo w g row) (hn:∀ k x,Value.int k x ∉ row) (ho:az g w w'):WdsAt w' v xs:=by
 obtain ⟨a,c,h1,h2,h3,h4,h5⟩:=h;refine ⟨a,c,h1,h2,h3,h4,fun i hi=>?_⟩;obtain ⟨b,o,h6,h7⟩:=h5 i hi;refine ⟨b,o,h6,?_⟩
 have hne:b≠g:=fun e=>by
  subst e;exact hn _ _ (hr.only h7)
 have hlt:b<w.heap.size:=by
  rcases Nat.lt_or_ge b w.heap.size with h8 | h8
  ·exact h8
  ·simp [World.cell?,Array.getElem?_eq_none h8] at h7
 have:=ho.block b hlt hne;simp only [World.cell?,this] at h7⊢;exact h7
theorem bH (v:Value) (r:Rw) (w:World) (hv:RatAt w v r) (hs:r.Short 274877906944):Calls Tryz.prog 62 #[v] w fun e w'=>(∃ u1 u2,e=.returned (.tuple #[.bool (ag r).1,u1,u2])/\WdsAt w' u1 (ag r).2.1/\WdsAt w' u2 (ag r).2.2)/\af w w':=by
 have HVA:=ae (fun W (hk:af w W)=>hJ v r W (hv.kept hk) hs);obtain ⟨neg,num,den⟩:=r;obtain ⟨u1,u2,rfl,h1,h2⟩:=hv;simp only at h1 h2;obtain ⟨a1,c1,rfl⟩:=h1.shape;obtain ⟨a2,c2,rfl⟩:=h2.shape;obtain ⟨n1,hn1⟩:∃ n1,n1=num.length:=⟨_,rfl⟩;obtain ⟨n2,hn2⟩:∃ n2,n2=den.length:=⟨_,rfl⟩;rw [<-hn1] at h1 HVA⊢;rw [<-hn2] at h2 HVA⊢;have H1:=ae h1;have H2:=ae h2;obtain ⟨w1,hw1⟩:∃ w1,w1=w.alloc (.cells #[.bool neg,.slice a1 n1 c1,.slice a2 n2 c2] 29):=⟨_,rfl⟩;have HR:Hid (ai w1 w.heap.size 29 [.bool neg,.slice a1 n1 c1,.slice a2 n2 c2]):=ae (by rw [hw1];exact ai.made w #[.bool neg,.slice a1 n1 c1,.slice a2 n2 c2] 29);have HK0:Hid (af w w1):=ae (by rw [hw1];exact (af.refl w).alloc _);have q0:=HR.out.cell (i:=0) (by simp);have q1:=HR.out.cell (i:=1) (by simp);have q2:=HR.out.cell (i:=2) (by simp);simp only [List.getElem_cons_succ,List.getElem_cons_zero] at q0 q1 q2;have HW1:=ae hw1;clear hw1;by_cases hg:bn ⟨neg,num,den⟩=true/\num≠[]
 ·have hP:ag ⟨neg,num,den⟩=(neg,num,den):=by unfold ag;rw [if_pos hg]
  rw [hP];rw [hg.1] at HVA
  have hb1:((n1:Int) == 0)=false:=by
   have:n1≠0:=fun h=>hg.2 (List.eq_nil_of_length_eq_zero (hn1.symm.trans h))
   simp;exact this
  clear h1 h2 hP hg hn1 hn2 hs;go_enter Tryz.func62,Tryz.ntmps62;go_wp2_with fail;rw [<-HW1.out];refine (HVA.out _ HK0.out).mono ?_;rintro e w2 ⟨rfl,hk2⟩;have y0:=hk2.cell q0;have y1:=hk2.cell q1;have y2:=hk2.cell q2;have HK2:=ae (HK0.out.trans hk2);clear hk2 q0 q1 q2;go_wp2_with fail;go_quiet (fail);go_wp2;go_ret3;exact ⟨⟨_,_,rfl,H1.out.kept (HK2.out.drewN _),H2.out.kept (HK2.out.drewN _)⟩,HK2.out.drewN _⟩
 ·have hP:ag ⟨neg,num,den⟩=(false,[],[1]):=by unfold ag;rw [if_neg hg]
  rw [hP];by_cases hvv:bn ⟨neg,num,den⟩=true
  ·have h0:n1=0:=by
    rw [hn1];by_cases h:num=[]
    ·rw [h];rfl
    ·exact absurd ⟨hvv,h⟩ hg
   rw [hvv] at HVA;subst h0;clear h1 h2 hP hg hn1 hn2 hs hvv;go_enter Tryz.func62,Tryz.ntmps62;go_wp2_with fail;rw [<-HW1.out];refine (HVA.out _ HK0.out).mono ?_;rintro e w2 ⟨rfl,hk2⟩;have y1:=hk2.cell q1;have HK2:=ae (HK0.out.trans hk2);clear hk2 q0 q1 q2;go_wp2_with fail;refine (iY _).mono ?_;rintro e w3 ⟨⟨v3,rfl,hv3⟩,hk3⟩;have H3:=ae hv3;have HK3:=ae (HK2.out.trans hk3);clear hv3 hk3;go_wp2;go_ret3;exact ⟨⟨_,_,rfl,WdsAt.nil _,H3.out⟩,HK3.out⟩
  ·have hvf:bn ⟨neg,num,den⟩=false:=by simpa using hvv
   rw [hvf] at HVA;clear h1 h2 hP hg hn1 hn2 hs hvv hvf;go_enter Tryz.func62,Tryz.ntmps62;go_wp2_with fail;rw [<-HW1.out];refine (HVA.out _ HK0.out).mono ?_;rintro e w2 ⟨rfl,hk2⟩;have HK2:=ae (HK0.out.trans hk2);clear hk2 q0 q1 q2;go_wp2_with fail;refine (iY _).mono ?_;rintro e w3 ⟨⟨v3,rfl,hv3⟩,hk3⟩;have H3:=ae hv3;have HK3:=ae (HK2.out.trans hk3);clear hv3 hk3;go_wp2;go_ret3;exact ⟨⟨_,_,rfl,WdsAt.nil _,H3.out⟩,HK3.out⟩
theorem dJ (neg:Bool) (va vb:Value) (xs ys:List Nat) (w:World) (ha:WdsAt w va xs) (hb:WdsAt w vb ys) (hla:xs.length<=274877906944) (hlb:ys.length<=274877906944) (hd:nv ys≠0) :
  Calls Tryz.prog 141 #[.bool neg,va,vb] w fun e w'=>(∃ v,e=.returned v/\RatAt w' v (gp neg (nv xs) (nv ys)))/\af w w':=by
 have HB:=ae (fun W (hk:af w W)=>yC va xs W (ha.kept hk));have HG:=ae (fun W (hk:af w W)=>sZ va vb xs ys W (ha.kept hk) (hb.kept hk) hla hlb)
 have HD1:Hid (∀ W vg,af w W->WdsAt W vg (nw (Nat.gcd (nv xs) (nv ys)))->Calls Tryz.prog 177 #[va,vg] W fun e w'=>(∃ v1 v2,e=.returned (.tuple #[v1,v2,.nilIface])/\WdsAt w' v1 (nw (nv xs / Nat.gcd (nv xs) (nv ys))))/\af W w'):=ae fun W vg hk hg =>
  (oy va vg xs _ W (ha.kept hk) hg hla (by rw [ap];exact fun h=>hd (Nat.eq_zero_of_gcd_eq_zero_right h))).mono fun _ _ ⟨⟨v1,v2,h1,h2,_⟩,h3⟩=>⟨⟨v1,v2,h1,by rw [ap] at h2;exact h2⟩,h3⟩
 have HD2:Hid (∀ W vg,af w W->WdsAt W vg (nw (Nat.gcd (nv xs) (nv ys)))->Calls Tryz.prog 177 #[vb,vg] W fun e w'=>(∃ v1 v2,e=.returned (.tuple #[v1,v2,.nilIface])/\WdsAt w' v1 (nw (nv ys / Nat.gcd (nv xs) (nv ys))))/\af W w'):=ae fun W vg hk hg =>
  (oy vb vg ys _ W (hb.kept hk) hg hlb (by rw [ap];exact fun h=>hd (Nat.eq_zero_of_gcd_eq_zero_right h))).mono fun _ _ ⟨⟨v1,v2,h1,h2,_⟩,h3⟩=>⟨⟨v1,v2,h1,by rw [ap] at h2;exact h2⟩,h3⟩
 obtain ⟨a0,c0,rfl⟩:=ha.shape;obtain ⟨a1,c1,rfl⟩:=hb.shape;generalize xs.length=n0 at *;generalize ys.length=n1 at *;obtain ⟨w1,hw1⟩:∃ w1,w1=w.alloc (.cells #[.bool false,.slice none 0 0,.slice none 0 0] 29):=⟨_,rfl⟩;have HR:Hid (ai w1 w.heap.size 29 [.bool false,.slice none 0 0,.slice none 0 0]):=ae (by rw [hw1];exact ai.made w #[.bool false,.slice none 0 0,.slice none 0 0] 29);have HK0:Hid (af w w1):=ae (by rw [hw1];exact (af.refl w).alloc _);have HFX:Hid (bo w1 w.heap.size [.bool false,.slice none 0 0,.slice none 0 0]):=ae (by rw [hw1];exact bo.made w #[.bool false,.slice none 0 0,.slice none 0 0] 29);have HW1:=ae hw1;clear hw1 ha hb hla hlb hd;by_cases h0:nv xs=0
 ·have hF:gp neg (nv xs) (nv ys)=⟨false,[],[]⟩:=by unfold gp;rw [if_pos h0]
  rw [hF];have H0:=ae h0;clear hF h0;go_enter Tryz.func141,Tryz.ntmps141;go_wp2_with fail;rw [<-HW1.out];refine (HB.out _ HK0.out).mono ?_;rintro e w2 ⟨⟨k,rfl,hk⟩,rfl⟩;have hk0:k=0:=hk.2 H0.out;subst hk0;clear hk;have g0:=HR.out.cell (i:=0) (by simp);have g1:=HR.out.cell (i:=1) (by simp);have g2:=HR.out.cell (i:=2) (by simp);have f0:=HR.out.free 0;have f1:=HR.out.free 1;have f2:=HR.out.free 2;go_wp2;have hF:=(((HR.out.store 0 (.bool false)).store 1 (.slice none 0 0)).store 2 (.slice none 0 0));have y0:=hF.cell (i:=0) (by simp);have y1:=hF.cell (i:=1) (by simp);have y2:=hF.cell (i:=2) (by simp);simp only [List.set_cons_zero,List.set_cons_succ,List.getElem_cons_succ,List.getElem_cons_zero] at y0 y1 y2;refine bodyPost_ret (v:=.agg #[.bool false,.slice none 0 0,.slice none 0 0]) ?_ rfl ⟨⟨_,rfl,RatAt.zero _⟩,?_⟩
  ·simp [results,Tryz.results141,go_sem,y0,y1,y2]
  ·exact ((HK0.out.store (Nat.le_refl _) _ _).store (Nat.le_refl _) _ _).store (Nat.le_refl _) _ _
 ·have hF:gp neg (nv xs) (nv ys)=⟨neg,nw (nv xs / Nat.gcd (nv xs) (nv ys)),nw (nv ys / Nat.gcd (nv xs) (nv ys))⟩:=by unfold gp;rw [if_neg h0]
  rw [hF];have H0:=ae h0;clear hF h0;generalize nw (nv xs / Nat.gcd (nv xs) (nv ys))=P at *;generalize nw (nv ys / Nat.gcd (nv xs) (nv ys))=Q at *;generalize nw (Nat.gcd (nv xs) (nv ys))=G at *;go_enter Tryz.func141,Tryz.ntmps141;go_wp2_with fail;rw [<-HW1.out];refine (HB.out _ HK0.out).mono ?_;rintro e w2 ⟨⟨k,rfl,hk⟩,rfl⟩
  have hk0:((k:Int) == 0)=false:=by
   have:k≠0:=fun h=>H0.out (hk.1 h)
   simp;exact this
  clear hk;go_wp2_with fail;refine (HG.out _ HK0.out).mono ?_;rintro e w3 ⟨⟨v3,rfl,hv3⟩,hk3⟩;have HV3:=ae hv3;have HK3:=ae (HK0.out.trans hk3);have HR3:=ae (HR.out.kept hk3);have HFX3:=ae (HFX.out.kept hk3);clear hv3 hk3 hk0;go_wp2_with fail;refine (HD1.out _ _ HK3.out HV3.out).mono ?_;rintro e w4 ⟨⟨v4,v5,rfl,hv4⟩,hk4⟩;have HV4:=ae hv4;have HV3':=ae (HV3.out.kept hk4);have HK4:=ae (HK3.out.trans hk4);have HR4:=ae (HR3.out.kept hk4);have HFX4:=ae (HFX3.out.kept hk4);clear hv4 hk4;go_wp2_with fail;refine (HD2.out _ _ HK4.out HV3'.out).mono ?_;rintro e w5 ⟨⟨v6,v7,rfl,hv6⟩,hk5⟩;have HV6:=ae hv6;have HV4':=ae (HV4.out.kept hk5);have HK5:=ae (HK4.out.trans hk5);have HR5:=ae (HR4.out.kept hk5);have HFX5:=ae (HFX4.out.kept hk5);clear hv6 hk5;obtain ⟨a4,c4,rfl⟩:=HV4'.out.shape;obtain ⟨a6,c6,rfl⟩:=HV6.out.shape;have g0:=HR5.out.cell (i:=0) (by simp);have g1:=HR5.out.cell (i:=1) (by simp);have g2:=HR5.out.cell (i:=2) (by simp);have f0:=HR5.out.free 0;have f1:=HR5.out.free 1;have f2:=HR5.out.free 2;go_wp2;have hF:=(((HR5.out.store 0 (.bool neg)).store 1 (.slice a4 P.length c4)).store 2 (.slice a6 Q.length c6));have y0:=hF.cell (i:=0) (by simp);have y1:=hF.cell (i:=1) (by simp);have y2:=hF.cell (i:=2) (by simp);simp only [List.set_cons_zero,List.set_cons_succ,List.getElem_cons_succ,List.getElem_cons_zero] at y0 y1 y2
  have hO:=(((az.refl w.heap.size w5).store 0 (.bool neg)).store 1 (.slice a4 P.length c4)).store 2 (.slice a6 Q.length c6);have z1:=HV4'.out.apart HFX5.out (by simp) hO;have z2:=HV6.out.apart HFX5.out (by simp) hO;refine bodyPost_ret (v:=.agg #[.bool neg,.slice a4 P.length c4,.slice a6 Q.length c6]) ?_ rfl ⟨⟨_,rfl,⟨_,_,rfl,z1,z2⟩⟩,?_⟩
  ·simp [results,Tryz.results141,go_sem,y0,y1,y2]
  ·exact ((HK5.out.store (Nat.le_refl _) _ _).store (Nat.le_refl _) _ _).store (Nat.le_refl _) _ _
theorem aB {r:Rw} {k:Nat} (h:r.Short k) (hk:1<=k):(ag r).2.1.length<=k/\(ag r).2.2.length<=k:=by
 unfold ag;split
 ·exact h
 ·exact ⟨by simp,by simpa using hk⟩
theorem mn (r:Rw):mkRat (sg (!(ag r).1) (nv (ag r).2.1)) (nv (ag r).2.2)=- aj r:=by
 unfold aj;rw [EW,Rat.neg_mkRat]
theorem qv {r s:Rw}:mkRat (sg ((ag r).1 != (ag s).1) (nv (ag r).2.1*nv (ag s).2.1)) (nv (ag r).2.2*nv (ag s).2.2)=aj r*aj s:=by
 unfold aj;rw [EV,Rat.mkRat_mul_mkRat]
theorem mm {r s:Rw} (hr:r.Ok) (hs:s.Ok) (h:(ag r).1=(ag s).1):mkRat (sg (ag r).1 (nv (ag r).2.1*nv (ag s).2.2+nv (ag s).2.1*nv (ag r).2.2)) (nv (ag r).2.2*nv (ag s).2.2)=aj r+aj s:=by
 unfold aj;rw [Rat.mkRat_add_mkRat _ _ (ay hr).2.2.1 (ay hs).2.2.1,EU,gD,h,gD]
theorem mp {r s:Rw} (hr:r.Ok) (hs:s.Ok) (h:(ag r).1≠(ag s).1) (hle:nv (ag s).2.1*nv (ag r).2.2<=nv (ag r).2.1*nv (ag s).2.2):mkRat (sg (ag r).1 (nv (ag r).2.1*nv (ag s).2.2 - nv (ag s).2.1*nv (ag r).2.2)) (nv (ag r).2.2*nv (ag s).2.2)=aj r+aj s:=by
 unfold aj;rw [Rat.mkRat_add_mkRat _ _ (ay hr).2.2.1 (ay hs).2.2.1,EY h hle,gD,gD]
theorem kp {r s:Rw} (hr:r.Ok) (hs:s.Ok) (h:(ag r).1≠(ag s).1) (hle:nv (ag r).2.1*nv (ag s).2.2<=nv (ag s).2.1*nv (ag r).2.2):mkRat (sg (ag s).1 (nv (ag s).2.1*nv (ag r).2.2 - nv (ag r).2.1*nv (ag s).2.2)) (nv (ag r).2.2*nv (ag s).2.2)=aj r+aj s:=by
 unfold aj;rw [Rat.mkRat_add_mkRat _ _ (ay hr).2.2.1 (ay hs).2.2.1,DC h hle,gD,gD]
theorem pg {r:Rw} (hr:r.Ok):((ag r).2.1.length=0 ↔ aj r=0)/\((ag r).2.1.length≠0->((ag r).1=true ↔ aj r<0)):=by
 have hok:=ay hr
 have h0:(ag r).2.1.length=0 ↔ nv (ag r).2.1=0:=by
  constructor
  ·intro h;rw [List.eq_nil_of_length_eq_zero h];rfl
  ·intro h;have:=xi hok.1 hok.2.2.2.1;rw [h,bR] at this;rw [<-this];rfl
 have h1:aj r=0 ↔ nv (ag r).2.1=0:=by
  unfold aj;rw [Rat.mkRat_eq_zero hok.2.2.1];constructor
  ·intro h;have:=rJ (ag r).1 (nv (ag r).2.1);rw [h] at this;simpa using this.symm
  ·intro h;rw [h];exact nH _
 refine ⟨h0.trans h1.symm,fun hne=>?_⟩;have hn:nv (ag r).2.1≠0:=fun h=>hne (h0.2 h)
 unfold aj
 have h2:mkRat (sg (ag r).1 (nv (ag r).2.1)) (nv (ag r).2.2)<0 ↔ sg (ag r).1 (nv (ag r).2.1)<0:=by
  have hd:(0:Int)<(nv (ag r).2.2:Int):=by have:=hok.2.2.1;omega
  rw [<-Rat.divInt_ofNat,<-Int.not_le,<-Rat.not_le];rw [show (0<=Rat.divInt (sg (ag r).1 (nv (ag r).2.1)) (nv (ag r).2.2:Int)) ↔ 0<=sg (ag r).1 (nv (ag r).2.1) from Rat.divInt_nonneg_iff_of_pos_right hd]
 rw [h2];unfold sg;cases (ag r).1 with
 | true=>simp;omega
 | false=>simp
theorem aL {w:World} {g:Nat} {T:TypeId} {v1 v2:Value} {r:Rw} (hr:ai w g T [.bool false,.slice none 0 0,.slice none 0 0]) (hf:bo w g [.bool false,.slice none 0 0,.slice none 0 0]) (h1:WdsAt w v1 r.num) (h2:WdsAt w v2 r.den) :
  (((w.setCell ⟨g,0,none⟩ (.bool r.neg)).setCell ⟨g,1,none⟩ v1).setCell ⟨g,2,none⟩ v2).cell? ⟨g,0,none⟩=some (.bool r.neg) /\
  (((w.setCell ⟨g,0,none⟩ (.bool r.neg)).setCell ⟨g,1,none⟩ v1).setCell ⟨g,2,none⟩ v2).cell? ⟨g,1,none⟩=some v1 /\
  (((w.setCell ⟨g,0,none⟩ (.bool r.neg)).setCell ⟨g,1,none⟩ v1).setCell ⟨g,2,none⟩ v2).cell? ⟨g,2,none⟩=some v2 /\
  RatAt (((w.setCell ⟨g,0,none⟩ (.bool r.neg)).setCell ⟨g,1,none⟩ v1).setCell ⟨g,2,none⟩ v2) (.agg #[.bool r.neg,v1,v2]) r:=by
 have hF:=(((hr.store 0 (.bool r.neg)).store 1 v1).store 2 v2);have y0:=hF.cell (i:=0) (by simp);have y1:=hF.cell (i:=1) (by simp);have y2:=hF.cell (i:=2) (by simp);simp only [List.set_cons_zero,List.set_cons_succ,List.getElem_cons_succ,List.getElem_cons_zero] at y0 y1 y2;have hO:=(((az.refl g w).store 0 (.bool r.neg)).store 1 v1).store 2 v2;exact ⟨y0,y1,y2,_,_,rfl,h1.apart hf (by simp) hO,h2.apart hf (by simp) hO⟩
theorem lv (w:World) (box:Obj):ai ((w.alloc box).alloc (.cells #[.bool false,.slice none 0 0,.slice none 0 0] 29)) (w.heap.size+1) 29 [.bool false,.slice none 0 0,.slice none 0 0]/\bo ((w.alloc box).alloc (.cells #[.bool false,.slice none 0 0,.slice none 0 0] 29)) (w.heap.size+1) [.bool false,.slice none 0 0,.slice none 0 0]/\af w ((w.alloc box).alloc (.cells #[.bool false,.slice none 0 0,.slice none 0 0] 29)):=by
 have h1:=ai.made (w.alloc box) #[.bool false,.slice none 0 0,.slice none 0 0] 29;have h2:=bo.made (w.alloc box) #[.bool false,.slice none 0 0,.slice none 0 0] 29;simp only [World.size_alloc] at h1 h2;exact ⟨h1,h2,((af.refl w).alloc _).alloc _⟩
theorem cw (w:World) (b1 b2:Obj):ai (((w.alloc b1).alloc b2).alloc (.cells #[.bool false,.slice none 0 0,.slice none 0 0] 29)) (w.heap.size+1+1) 29 [.bool false,.slice none 0 0,.slice none 0 0]/\bo (((w.alloc b1).alloc b2).alloc (.cells #[.bool false,.slice none 0 0,.slice none 0 0] 29)) (w.heap.size+1+1) [.bool false,.slice none 0 0,.slice none 0 0]/\af w (((w.alloc b1).alloc b2).alloc (.cells #[.bool false,.slice none 0 0,.slice none 0 0] 29)):=by
 have h1:=ai.made ((w.alloc b1).alloc b2) #[.bool false,.slice none 0 0,.slice none 0 0] 29;have h2:=bo.made ((w.alloc b1).alloc b2) #[.bool false,.slice none 0 0,.slice none 0 0] 29;simp only [World.size_alloc] at h1 h2;exact ⟨h1,h2,(((af.refl w).alloc _).alloc _).alloc _⟩
theorem BT (v:Value) (r:Rw) (w:World) (hv:RatAt w v r) (hs:r.Short 274877906944):Calls Tryz.prog 118 #[v] w fun e w'=>(∃ v',e=.returned v'/\RatAt w' v' (ah (- aj r)))/\af w w':=by
 have HPA:=ae (fun W (hk:af w W)=>bH v r W (hv.kept hk) hs);have hok:=ay hv.ok;have hsh:=aB hs (by omega);obtain ⟨R,hR⟩:∃ R,R=ah (- aj r):=⟨_,rfl⟩
 have HFO:Hid (∀ W u1 u2,WdsAt W u1 (ag r).2.1->WdsAt W u2 (ag r).2.2->Calls Tryz.prog 141 #[.bool (!(ag r).1),u1,u2] W fun e w'=>(∃ v,e=.returned v/\RatAt w' v R)/\af W w'):=ae fun W u1 u2 k1 k2=>by
  have h:=dJ (!(ag r).1) u1 u2 _ _ W k1 k2 hsh.1 hsh.2 hok.2.2.1;rw [bV _ _ _ hok.2.2.1,mn,<-hR] at h;exact h
 rw [<-hR];obtain ⟨u1,u2,rfl,h1,h2⟩:=hv;obtain ⟨a1,c1,rfl⟩:=h1.shape;obtain ⟨a2,c2,rfl⟩:=h2.shape;obtain ⟨w2,hw2⟩:∃ w2,w2=(w.alloc (.cells #[.bool r.neg,.slice a1 r.num.length c1,.slice a2 r.den.length c2] 29)).alloc (.cells #[.bool false,.slice none 0 0,.slice none 0 0] 29):=⟨_,rfl⟩;have HM:=ae (lv w (.cells #[.bool r.neg,.slice a1 r.num.length c1,.slice a2 r.den.length c2] 29));rw [<-hw2] at HM;have HW2:=ae hw2;generalize (ag r).1=s at *;generalize (ag r).2.1=N at *;generalize (ag r).2.2=D at *;generalize r.num.length=n1 at *;generalize r.den.length=n2 at *;generalize r.neg=neg at *;clear hok hsh hR h1 h2 hs hw2;go_enter Tryz.func118,Tryz.ntmps118;go_wp2_with fail;rw [<-HW2.out];refine (HPA.out _ HM.out.2.2).mono ?_;rintro e w3 ⟨⟨u3,u4,rfl,hu3,hu4⟩,hk3⟩;have H3:=ae hu3;have H4:=ae hu4;have HR3:=ae (HM.out.1.kept hk3);have HF3:=ae (HM.out.2.1.kept hk3);have HK3:=ae (HM.out.2.2.trans hk3);clear hu3 hu4 hk3;go_wp2_with fail;refine (HFO.out _ _ _ H3.out H4.out).mono ?_;rintro e w4 ⟨⟨v4,rfl,hv4⟩,hk4⟩;have HV4:=ae hv4;have hr4:=HR3.out.kept hk4;have HR4:=ae hr4;have HF4:=ae (HF3.out.kept hk4);have HK4:=ae (HK3.out.trans hk4);obtain ⟨u5,u6,rfl,k5,k6⟩:=hv4;obtain ⟨a5,c5,rfl⟩:=k5.shape;obtain ⟨a6,c6,rfl⟩:=k6.shape;obtain ⟨y0,y1,y2,hra⟩:=aL hr4 HF4.out k5 k6;have g0:=hr4.cell (i:=0) (by simp)
 have g1:=hr4.cell (i:=1) (by simp);have g2:=hr4.cell (i:=2) (by simp);have f0:=hr4.free 0;have f1:=hr4.free 1;have f2:=hr4.free 2;have HRA:=ae hra;have Y0:=ae y0;have Y1:=ae y1;have Y2:=ae y2;clear hra y0 y1 y2 k5 k6 hr4 hk4;generalize R.num.length=n5 at *;generalize R.den.length=n6 at *;go_wp2;refine bodyPost_ret (v:=.agg #[.bool R.neg,.slice a5 n5 c5,.slice a6 n6 c6]) ?_ rfl ⟨⟨_,rfl,HRA.out⟩,?_⟩
 ·simp [results,Tryz.results118,go_sem,Y0.out,Y1.out,Y2.out]
 ·exact ((HK4.out.store (by omega) _ _).store (by omega) _ _).store (by omega) _ _
def cO (q:Rat):Int:=if q=0 then 0 else if q<0 then -1 else 1
theorem zg (v:Value) (r:Rw) (w:World) (hv:RatAt w v r) (hs:r.Short 274877906944):Calls Tryz.prog 22 #[v] w fun e w'=>e=.returned (.int .i64 (cO (aj r)))/\af w w':=by
 have HPA:=ae (fun W (hk:af w W)=>bH v r W (hv.kept hk) hs);obtain ⟨k1,k2⟩:=pg hv.ok;obtain ⟨u1,u2,rfl,h1,h2⟩:=hv;obtain ⟨a1,c1,rfl⟩:=h1.shape;obtain ⟨a2,c2,rfl⟩:=h2.shape;have HK0:Hid (af w (w.alloc (.cells #[.bool r.neg,.slice a1 r.num.length c1,.slice a2 r.den.length c2] 29))):=ae ((af.refl w).alloc _);obtain ⟨ln,hln⟩:∃ ln,ln=(ag r).2.1.length:=⟨_,rfl⟩;have HLN:=ae hln;rw [<-hln] at k1 k2;obtain ⟨S,hS⟩:∃ S,S=cO (aj r):=⟨_,rfl⟩;rw [<-hS]
 have hSS:S=if ln=0 then 0 else if (ag r).1=true then -1 else 1:=by
  rw [hS];unfold cO;by_cases h:ln=0
  ·rw [if_pos h,if_pos (k1.1 h)]
  ·rw [if_neg h,if_neg (fun e=>h (k1.2 e))];by_cases h3:(ag r).1=true
   ·rw [if_pos h3,if_pos ((k2 h).1 h3)]
   ·rw [if_neg h3,if_neg (fun e=>h3 ((k2 h).2 e))]
 generalize (ag r).1=s at *;generalize (ag r).2.1=N at *;generalize (ag r).2.2=D at *;generalize r.num.length=n1 at *;generalize r.den.length=n2 at *;generalize r.neg=neg at *;clear h1 h2 hs hS k1 k2 hln;by_cases h0:ln=0
 ·have hE:S=0:=by rw [hSS,if_pos h0]
  subst h0 hE;clear hSS;go_enter Tryz.func22,Tryz.ntmps22;go_wp2_with fail;refine (HPA.out _ HK0.out).mono ?_;rintro e w3 ⟨⟨u3,u4,rfl,hu3,hu4⟩,hk3⟩;obtain ⟨a3,c3,rfl⟩:=hu3.shape;rw [<-HLN.out];have HK3:=ae (HK0.out.trans hk3);clear hu3 hu4 hk3;go_wp2;go_ret;exact ⟨rfl,HK3.out⟩
 ·have hb:((ln:Int) == 0)=false:=by simp;exact h0
  cases s with
  | true =>
   have hE:S=-1:=by rw [hSS,if_neg h0,if_pos rfl]
   subst hE;clear hSS h0;go_enter Tryz.func22,Tryz.ntmps22;go_wp2_with fail;refine (HPA.out _ HK0.out).mono ?_;rintro e w3 ⟨⟨u3,u4,rfl,hu3,hu4⟩,hk3⟩;obtain ⟨a3,c3,rfl⟩:=hu3.shape;rw [<-HLN.out];have HK3:=ae (HK0.out.trans hk3);clear hu3 hu4 hk3;go_wp2;go_ret;exact ⟨rfl,HK3.out⟩
  | false =>
   have hE:S=1:=by rw [hSS,if_neg h0,if_neg (by simp)]
   subst hE;clear hSS h0;go_enter Tryz.func22,Tryz.ntmps22;go_wp2_with fail;refine (HPA.out _ HK0.out).mono ?_;rintro e w3 ⟨⟨u3,u4,rfl,hu3,hu4⟩,hk3⟩;obtain ⟨a3,c3,rfl⟩:=hu3.shape;rw [<-HLN.out];have HK3:=ae (HK0.out.trans hk3);clear hu3 hu4 hk3;go_wp2;go_ret;exact ⟨rfl,HK3.out⟩
theorem aD {xs ys:List Nat} (hx:Wd xs) (hy:Wd ys):(nw (nv xs*nv ys)).length<=xs.length+ys.length:=by
 refine aI.2 ?_;rw [Nat.pow_add];exact Nat.mul_lt_mul'' (dw hx) (dw hy)
theorem iX (va vb:Value) (r s:Rw) (w:World) (ha:RatAt w va r) (hb:RatAt w vb s) (hr:r.Short 137438953472) (hs:s.Short 137438953472):Calls Tryz.prog 97 #[va,vb] w fun e w'=>(∃ v',e=.returned v'/\RatAt w' v' (ah (aj r*aj s)))/\af w w':=by
 have HP1:=ae (fun W (hk:af w W)=>bH va r W (ha.kept hk) ⟨Nat.le_trans hr.1 (by omega),Nat.le_trans hr.2 (by omega)⟩);have HP2:=ae (fun W (hk:af w W)=>bH vb s W (hb.kept hk) ⟨Nat.le_trans hs.1 (by omega),Nat.le_trans hs.2 (by omega)⟩);have hok1:=ay ha.ok;have hok2:=ay hb.ok;have hsh1:=aB hr (by omega);have hsh2:=aB hs (by omega);obtain ⟨R,hR⟩:∃ R,R=ah (aj r*aj s):=⟨_,rfl⟩;obtain ⟨x,hx⟩:∃ x,x=((ag r).1 != (ag s).1):=⟨_,rfl⟩
 have HFO:Hid (∀ W u1 u2,WdsAt W u1 (nw (nv (ag r).2.1*nv (ag s).2.1))->WdsAt W u2 (nw (nv (ag r).2.2*nv (ag s).2.2))->Calls Tryz.prog 141 #[.bool x,u1,u2] W fun e w'=>(∃ v,e=.returned v/\RatAt w' v R)/\af W w'):=ae fun W u1 u2 k1 k2=>by
  have hd:nv (ag r).2.2*nv (ag s).2.2≠0:=Nat.mul_ne_zero hok1.2.2.1 hok2.2.2.1;have h:=dJ x u1 u2 _ _ W k1 k2 (Nat.le_trans (aD hok1.1 hok2.1) (by omega)) (Nat.le_trans (aD hok1.2.1 hok2.2.1) (by omega)) (by rw [ap];exact hd);rw [ap,ap,bV _ _ _ hd,hx,qv,<-hR] at h;rw [hx];exact h
 have HM1:Hid (∀ W u1 u2,WdsAt W u1 (ag r).2.1->WdsAt W u2 (ag s).2.1->Calls Tryz.prog 156 #[u1,u2] W fun e w'=>(∃ v',e=.returned v'/\WdsAt w' v' (nw (nv (ag r).2.1*nv (ag s).2.1)))/\af W w'):=ae fun W u1 u2 k1 k2=>dd u1 u2 _ _ W k1 k2 (by omega) (by omega)
 have HM2:Hid (∀ W u1 u2,WdsAt W u1 (ag r).2.2->WdsAt W u2 (ag s).2.2->Calls Tryz.prog 156 #[u1,u2] W fun e w'=>(∃ v',e=.returned v'/\WdsAt w' v' (nw (nv (ag r).2.2*nv (ag s).2.2)))/\af W w'):=ae fun W u1 u2 k1 k2=>dd u1 u2 _ _ W k1 k2 (by omega) (by omega)
 rw [<-hR];obtain ⟨u1,u2,rfl,h1,h2⟩:=ha;obtain ⟨u3,u4,rfl,h3,h4⟩:=hb;obtain ⟨a1,c1,rfl⟩:=h1.shape;obtain ⟨a2,c2,rfl⟩:=h2.shape;obtain ⟨a3,c3,rfl⟩:=h3.shape;obtain ⟨a4,c4,rfl⟩:=h4.shape;obtain ⟨w2,hw2⟩:∃ w2,w2=((w.alloc (.cells #[.bool r.neg,.slice a1 r.num.length c1,.slice a2 r.den.length c2] 29)).alloc (.cells #[.bool s.neg,.slice a3 s.num.length c3,.slice a4 s.den.length c4] 29)).alloc (.cells #[.bool false,.slice none 0 0,.slice none 0 0] 29):=⟨_,rfl⟩;have HM:=ae (cw w (.cells #[.bool r.neg,.slice a1 r.num.length c1,.slice a2 r.den.length c2] 29) (.cells #[.bool s.neg,.slice a3 s.num.length c3,.slice a4 s.den.length c4] 29));rw [<-hw2] at HM;have hb2:=ai.made (w.alloc (.cells #[.bool r.neg,.slice a1 r.num.length c1,.slice a2 r.den.length c2] 29)) #[.bool s.neg,.slice a3 s.num.length c3,.slice a4 s.den.length c4] 29;simp only [World.size_alloc] at hb2;have HB2:Hid (ai w2 (w.heap.size+1) 29 [.bool s.neg,.slice a3 s.num.length c3,.slice a4 s.den.length c4]):=ae (by rw [hw2];exact hb2.kept ((af.refl _).alloc _));have HW2:=ae hw2;generalize nw (nv (ag r).2.1*nv (ag s).2.1)=NM at *;generalize nw (nv (ag r).2.2*nv (ag s).2.2)=DE at *;generalize (ag r).1=s1 at *;generalize (ag s).1=s2 at *;generalize (ag r).2.1=N at *;generalize (ag r).2.2=D at *;generalize (ag s).2.1=M at *;generalize (ag s).2.2=E at *;generalize r.num.length=n1 at *
 generalize r.den.length=n2 at *;generalize s.num.length=n3 at *;generalize s.den.length=n4 at *;generalize r.neg=neg1 at *;generalize s.neg=neg2 at *;have hx1:(s1 != s2)=x:=hx.symm;have hx2:(s1 == s2)=!x:=by rw [hx];simp [bne]
 clear hok1 hok2 hsh1 hsh2 hR h1 h2 h3 h4 hr hs hw2 hb2 hx;go_enter Tryz.func97,Tryz.ntmps97;go_wp2_with fail;rw [<-HW2.out];refine (HP1.out _ HM.out.2.2).mono ?_;rintro e w3 ⟨⟨u3,u4,rfl,hu3,hu4⟩,hk3⟩;have HN:=ae hu3;have HD:=ae hu4;have HR3:=ae (HM.out.1.kept hk3);have HF3:=ae (HM.out.2.1.kept hk3);have hb3:=HB2.out.kept hk3;have g0:=hb3.cell (i:=0) (by simp);have g1:=hb3.cell (i:=1) (by simp);have g2:=hb3.cell (i:=2) (by simp);simp only [List.getElem_cons_succ,List.getElem_cons_zero] at g0 g1 g2;have HK3:=ae (HM.out.2.2.trans hk3);clear hu3 hu4 hk3 hb3;go_wp2_with fail;refine (HP2.out _ HK3.out).mono ?_;rintro e w4 ⟨⟨u5,u6,rfl,hu5,hu6⟩,hk4⟩;have HN':=ae (HN.out.kept hk4);have HD':=ae (HD.out.kept hk4);have HMM:=ae hu5;have HEE:=ae hu6;have HR4:=ae (HR3.out.kept hk4);have HF4:=ae (HF3.out.kept hk4);have HK4:=ae (HK3.out.trans hk4);clear hu5 hu6 hk4 g0 g1 g2;go_wp2_with fail;refine (HM1.out _ _ _ HN'.out HMM.out).mono ?_;rintro e w5 ⟨⟨v5,rfl,hv5⟩,hk5⟩;have HV5:=ae hv5;have HR5:=ae (HR4.out.kept hk5);have HF5:=ae (HF4.out.kept hk5);have HD5:=ae (HD'.out.kept hk5);have HE5:=ae (HEE.out.kept hk5);have HK5:=ae (HK4.out.trans hk5);clear hv5 hk5;go_wp2_with fail;refine (HM2.out _ _ _ HD5.out HE5.out).mono ?_;rintro e w6 ⟨⟨v6,rfl,hv6⟩,hk6⟩;have HV6:=ae hv6;have HV5':=ae (HV5.out.kept hk6)
 have HR6:=ae (HR5.out.kept hk6);have HF6:=ae (HF5.out.kept hk6);have HK6:=ae (HK5.out.trans hk6);clear hv6 hk6;go_wp2_with fail
 first
  | (refine (HFO.out _ _ _ HV5'.out HV6.out).mono ?_)
  | (rw [hx1];refine (HFO.out _ _ _ HV5'.out HV6.out).mono ?_)
 rintro e w7 ⟨⟨v7,rfl,hv7⟩,hk7⟩;have HV7:=ae hv7;have hr7:=HR6.out.kept hk7;have HF7:=ae (HF6.out.kept hk7);have HK7:=ae (HK6.out.trans hk7);obtain ⟨u7,u8,rfl,k7,k8⟩:=hv7;obtain ⟨a7,c7,rfl⟩:=k7.shape;obtain ⟨a8,c8,rfl⟩:=k8.shape;obtain ⟨y0,y1,y2,hra⟩:=aL hr7 HF7.out k7 k8;have g0:=hr7.cell (i:=0) (by simp);have g1:=hr7.cell (i:=1) (by simp);have g2:=hr7.cell (i:=2) (by simp);have f0:=hr7.free 0;have f1:=hr7.free 1;have f2:=hr7.free 2;have HRA:=ae hra;have Y0:=ae y0;have Y1:=ae y1;have Y2:=ae y2;clear hra y0 y1 y2 k7 k8 hr7 hk7;generalize R.num.length=n7 at *;generalize R.den.length=n8 at *;go_wp2;refine bodyPost_ret (v:=.agg #[.bool R.neg,.slice a7 n7 c7,.slice a8 n8 c8]) ?_ rfl ⟨⟨_,rfl,HRA.out⟩,?_⟩
 ·simp [results,Tryz.results97,go_sem,Y0.out,Y1.out,Y2.out]
 ·exact ((HK7.out.store (by omega) _ _).store (by omega) _ _).store (by omega) _ _
end Go.Proofs.YtofibjflkebkpaaGreatDoor
