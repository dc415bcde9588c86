import Derived.Test.YtofibjflkebkpaaGreatDoorEQ4
import Derived.Lib.BitFns
import Derived.Deep.CutBlock
set_option maxRecDepth 100000
set_option maxHeartbeats 16000000
namespace Go.Proofs.YtofibjflkebkpaaGreatDoor
open Go.RowKit
theorem lK (v:Value) (xs:List Nat) (i:Nat) (w:World) (hv:WdsAt w v xs):Calls Tryz.prog 239 #[v,.int .i64 i] w fun e w'=>e=.returned (.int .u64 ((xs.getD i 0:Nat):Int))/\w=w':=by
 obtain ⟨a,c,rfl⟩:=hv.shape;have hl:=hv.len;obtain ⟨n,hn⟩:∃ n,n=xs.length:=⟨_,rfl⟩;rw [<-hn] at hv hl⊢;by_cases h:i<n
 ·obtain ⟨b,o,rfl,hc⟩:=hv.get i (by omega);have hx:=hv.wd.getD i;obtain ⟨x,ag⟩:∃ x,x=xs.getD i 0:=⟨_,rfl⟩;rw [<-ag] at hc hx⊢;have hi:(i:Int)<(n:Int):=by omega
  clear hv hn ag;go_enter Tryz.func239,Tryz.ntmps239;go_wp2;go_ret;exact ⟨rfl,rfl⟩
 ·have e:xs.getD i 0=0:=by simp [List.getD_eq_getElem?_getD,show xs.length<=i by omega]
  rw [e];have hi:¬ (i:Int)<(n:Int):=by omega
  clear hv hn e;go_enter Tryz.func239,Tryz.ntmps239;go_wp2;go_ret;exact ⟨rfl,rfl⟩
theorem jT (v:Value) (xs:List Nat) (i:Nat) (w:World) (hv:WdsAt w v xs):Calls Tryz.prog 226 #[v,.int .i64 i] w fun e w'=>e=.returned (.int .u64 ((xs.getD i 0:Nat):Int))/\w=w':=by
 obtain ⟨a,c,rfl⟩:=hv.shape;have hl:=hv.len;obtain ⟨n,hn⟩:∃ n,n=xs.length:=⟨_,rfl⟩;rw [<-hn] at hv hl⊢;by_cases h:i<n
 ·obtain ⟨b,o,rfl,hc⟩:=hv.get i (by omega);have hx:=hv.wd.getD i;obtain ⟨x,ag⟩:∃ x,x=xs.getD i 0:=⟨_,rfl⟩;rw [<-ag] at hc hx⊢;have hi:(i:Int)<(n:Int):=by omega
  clear hv hn ag;go_enter Tryz.func226,Tryz.ntmps226;go_wp2;go_ret;exact ⟨rfl,rfl⟩
 ·have e:xs.getD i 0=0:=by simp [List.getD_eq_getElem?_getD,show xs.length<=i by omega]
  rw [e];have hi:¬ (i:Int)<(n:Int):=by omega
  clear hv hn e;go_enter Tryz.func226,Tryz.ntmps226;go_wp2;go_ret;exact ⟨rfl,rfl⟩
theorem iQ (v:Value) (xs:List Nat) (w:World) (hv:WdsAt w v xs):Calls Tryz.prog 116 #[v] w fun e w'=>(∃ v',e=.returned v'/\WdsAt w' v' (nw (nv xs)))/\gO w w':=by
 obtain ⟨a,c,rfl⟩:=hv.shape;have hl:=hv.len;have HV:=af hv;obtain ⟨n,hn⟩:∃ n,n=xs.length:=⟨_,rfl⟩;have HN:=af hn;rw [<-hn] at hl⊢;have aj:Hid (WdsAt w (.slice a n c) xs):=af (by rw [hn];exact HV.out);clear hv hn HV;go_enter Tryz.func116,Tryz.ntmps116;go_wp2;go_loopg [3] n (fun kx s3 wr=>∃ k:Nat,s3=.int .i64 k/\k<=n/\k<=kx/\Hid (∀ i,k<=i->xs.getD i 0=0)/\w=wr)
 case atStart=>exact ⟨n,rfl,Nat.le_refl _,Nat.le_refl _,af (fun i hi=>by have:=HN.out;simp [List.getD_eq_getElem?_getD,show xs.length<=i by omega]),rfl⟩
 case round =>
  obtain ⟨k,rfl,hk,az,HZ,rfl⟩:=hrel;by_cases ar:k=0
  ·have e0:nw (nv xs)=[]:=by
    rw [xl aj.out.wd (Nat.zero_le _) (fun i hi=>HZ.out i (by omega)) (.inl rfl)];rfl
   subst ar;go_wp2;go_ret;exact ⟨⟨_,rfl,by rw [e0];exact WdsAt.nil _⟩,gO.refl _⟩
  ·obtain ⟨j,rfl⟩:∃ j,k=j+1:=⟨k - 1,by omega⟩;obtain ⟨b,o,rfl,hc⟩:=aj.out.get j (by have:=HN.out;omega);obtain ⟨x,ai⟩:∃ x,x=xs.getD j 0:=⟨_,rfl⟩;rw [<-ai] at hc;have hp:((j+1:Nat):Int) > 0:=by omega
   have hj:((j+1:Nat):Int) - 1=(j:Int):=by omega
   have aA:(j:Int)<(n:Int):=by omega
   by_cases ah:x=0
   ·have hb:((x:Int) == 0)=true:=by simp [ah]
    have HX:=af (ai.symm.trans ah);clear ai ah;go_wp2;go_roundg j
    case measure=>omega
    case rel=>exact ⟨j,rfl,by omega,Nat.le_refl _,af (fun i hi=>by
     by_cases h:i=j
     ·rw [h];exact HX.out
     ·exact HZ.out i (by omega)),rfl⟩
   ·have hb:((x:Int) == 0)=false:=by simp;exact ah
    have al:j+1<=xs.length:=by have:=HN.out;omega
    have e0:nw (nv xs)=xs.take (j+1):=xl aj.out.wd al HZ.out (.inr (by rw [Nat.add_sub_cancel,<-ai];exact ah));have HT:=af (aj.out.take (j+1) al);have ap:(xs.take (j+1)).length=j+1:=by rw [List.length_take];omega
    have am:=af ap;obtain ⟨m,hm⟩:∃ m,m=j+1:=⟨_,rfl⟩;rw [<-hm] at HT am hp hj hk e0;have E0:=af e0;have aB:m<=c:=by obtain ⟨_,_,h1,h2,_⟩:=HT.out;injection h1 with _ h3 h4;have:=am.out;omega
    have aw:((m:Int) == 0)=false:=by simp;omega
    rw [<-hm];clear ai ah e0 ap hm al;go_wp2_with (at_builtin;refine wI rfl _ _ rfl w.heap.size _ [] rfl (jM w _ (Nat.le_refl _)) _ _ rfl (HT.out.kept ((gO.refl _).alloc _)) (by have:=am.out;simp;omega) (by simp) ?_;intro v7 w7 ag aq;have O7:=af ag;have ay:=af aq;clear ag aq);go_ret;exact ⟨⟨_,rfl,by rw [E0.out];have:=O7.out.at;simpa using this⟩,((gO.refl _).alloc _).app ay.out⟩
theorem kJ (v:Value) (xs:List Nat) (w:World) (hv:WdsAt w v xs):Calls Tryz.prog 227 #[v] w fun e w'=>(∃ v',e=.returned v'/\iO w' w.heap.size v' (nw (nv xs)))/\gO w w':=by
 obtain ⟨a,c,rfl⟩:=hv.shape;have hl:=hv.len;have HV:=af hv;obtain ⟨n,hn⟩:∃ n,n=xs.length:=⟨_,rfl⟩;have HN:=af hn;rw [<-hn] at hl⊢;have ai:Hid (WdsAt w (.slice a n c) xs):=af (by rw [hn];exact HV.out);clear hv hn HV;go_enter Tryz.func227,Tryz.ntmps227;go_wp2;go_loopg [3] n (fun kx s3 wr=>∃ k:Nat,s3=.int .i64 k/\k<=n/\k<=kx/\Hid (∀ i,k<=i->xs.getD i 0=0)/\w=wr)
 case atStart=>exact ⟨n,rfl,Nat.le_refl _,Nat.le_refl _,af (fun i hi=>by have:=HN.out;simp [List.getD_eq_getElem?_getD,show xs.length<=i by omega]),rfl⟩
 case round =>
  obtain ⟨k,rfl,hk,aD,HZ,rfl⟩:=hrel;have aq:k<=xs.length:=by have:=HN.out;omega
  have HT:=af (ai.out.take k aq);have ar:(xs.take k).length=k:=by rw [List.length_take];omega
  have aA:=af ar;have aF:k<=c:=by obtain ⟨_,_,h1,h2,_⟩:=HT.out;injection h1 with _ h3 h4;omega
  clear ar;by_cases hex:k=0\/xs.getD (k - 1) 0≠0
  ·have E0:=af (xl ai.out.wd aq HZ.out hex);have al:Hid (∀ (g cc:Nat),True):=af fun _ _=>trivial
   clear al;by_cases am:k=0
   ·have hp:¬ (k:Int) > 0:=by omega
    have aw:a=none->c=0:=by obtain ⟨_,_,h1,h2,_⟩:=ai.out;injection h1 with h1 _ h3;subst h1 h3;exact h2.2
    subst am;clear hex;cases a with
    | none =>
     have:=aw rfl;subst this;go_wp2;go_ret;exact ⟨⟨_,rfl,by rw [E0.out];exact jM w _ (Nat.le_refl _)⟩,(gO.refl _).alloc _⟩
    | some a =>
     clear aw;go_wp2;go_ret;exact ⟨⟨_,rfl,by rw [E0.out];exact jM w _ (Nat.le_refl _)⟩,(gO.refl _).alloc _⟩
   ·obtain ⟨b,o,rfl,hc⟩:=ai.out.get (k - 1) (by omega);have ag:=hex.resolve_left am;obtain ⟨x,ay⟩:∃ x,x=xs.getD (k - 1) 0:=⟨_,rfl⟩;rw [<-ay] at hc ag;obtain ⟨j,aj⟩:∃ j,j=k - 1:=⟨_,rfl⟩;rw [<-aj] at hc;have hp:(k:Int) > 0:=by omega
    have hj:(k:Int) - 1=(j:Int):=by omega
    have aB:(j:Int)<(n:Int):=by omega
    have ap:j<n:=by omega
    have hb:((x:Int) == 0)=false:=by simp;exact ag
    clear hex ay ag aj;go_wp2_with (at_builtin;refine wI rfl _ _ rfl w.heap.size _ [] rfl (jM w _ (Nat.le_refl _)) _ _ rfl (HT.out.kept ((gO.refl _).alloc _)) (by have:=aA.out;simp;omega) (by simp) ?_;intro v7 w7 ah az;have O7:=af ah;have aC:=af az;clear ah az);go_ret;exact ⟨⟨_,rfl,by rw [E0.out];have:=O7.out;simpa using this⟩,((gO.refl _).alloc _).app aC.out⟩
  ·have am:k≠0:=fun h=>hex (.inl h)
   have ag:xs.getD (k - 1) 0=0:=Classical.byContradiction fun h=>hex (.inr h)
   obtain ⟨b,o,rfl,hc⟩:=ai.out.get (k - 1) (by omega);rw [ag] at hc;obtain ⟨j,aj⟩:∃ j,j=k - 1:=⟨_,rfl⟩;rw [<-aj] at hc ag;have hp:(k:Int) > 0:=by omega
   have hj:(k:Int) - 1=(j:Int):=by omega
   have aB:(j:Int)<(n:Int):=by omega
   have ap:j<n:=by omega
   have aG:j+1=k:=by omega
   have HX:=af ag;clear hex ag aj;go_wp2;go_roundg j
   case measure=>omega
   case rel=>exact ⟨j,by go_num,by omega,Nat.le_refl _,af (fun i hi=>by
    by_cases h:i=j
    ·rw [h];exact HX.out
    ·exact HZ.out i (by omega)),rfl⟩
def kv (a b:Nat):Int:=if a<b then -1 else if b<a then 1 else 0
theorem mL {a b:Nat} (h:a<b):kv a b=-1:=by unfold kv;rw [if_pos h]
theorem lY {a b:Nat} (h:b<a):kv a b=1:=by unfold kv;rw [if_neg (by omega),if_pos h]
theorem mK {a b:Nat} (h:a=b):kv a b=0:=by unfold kv;rw [if_neg (by omega),if_neg (by omega)]
theorem lB (va vb:Value) (xs ys:List Nat) (w:World) (ha:WdsAt w va xs) (hb:WdsAt w vb ys):Calls Tryz.prog 69 #[va,vb] w fun e w'=>e=.returned (.int .i64 (kv (nv xs) (nv ys)))/\gO w w':=by
 have HA:=af (fun W (hk:gO w W)=>iQ va xs W (ha.kept hk));have HB:=af (fun W (hk:gO w W)=>iQ vb ys W (hb.kept hk));obtain ⟨a0,c0,rfl⟩:=ha.shape;obtain ⟨a1,c1,rfl⟩:=hb.shape;obtain ⟨m,hm⟩:∃ m,m=nv xs:=⟨_,rfl⟩;obtain ⟨n,hn⟩:∃ n,n=nv ys:=⟨_,rfl⟩;rw [<-hm] at HA⊢;rw [<-hn] at HB⊢;generalize xs.length=l0 at *;generalize ys.length=l1 at *;clear ha hb hm hn;go_enter Tryz.func69,Tryz.ntmps69;go_wp2_with fail;refine (HA.out _ (gO.refl _)).mono ?_;rintro e w1 ⟨⟨v1,rfl,ap⟩,ai⟩;go_wp2_with fail;refine (HB.out _ ai).mono ?_;rintro e w2 ⟨⟨v2,rfl,ah⟩,aj⟩;have ag:=ap.kept aj;have HK:=af (ai.trans aj);obtain ⟨a2,c2,rfl⟩:=ag.shape;obtain ⟨a3,c3,rfl⟩:=ah.shape;have H1:=af ag;have H2:=af ah;obtain ⟨p,hp⟩:∃ p,p=(nw m).length:=⟨_,rfl⟩;obtain ⟨q,hq⟩:∃ q,q=(nw n).length:=⟨_,rfl⟩;have aA:p<=1099511627776:=by rw [hp];exact ag.len
 have aB:q<=1099511627776:=by rw [hq];exact ah.len
 rw [<-hp] at H1⊢;rw [<-hq] at H2⊢;have HP:=af hp;have HQ:=af hq;clear ap ag ah ai aj hp hq;rcases Nat.lt_trichotomy p q with aq | heq | hgt
 ·have hc:=mL (rD (m:=m) (n:=n) (by have:=HP.out;have:=HQ.out;omega));have HC:=af hc;have b1:((p:Int) != (q:Int))=true:=by simp;omega
  have b2:decide (p<q)=true:=by simpa using aq
  clear hc;go_wp2;go_ret;exact ⟨by rw [HC.out];first | done | rfl,HK.out⟩
 ·subst heq;have b1:((p:Int) != (p:Int))=false:=by simp
  go_wp2;go_loopg [5] p (fun kx s5 wr=>∃ k:Nat,s5=.int .i64 ((k:Int) - 1)/\k<=p/\k<=kx/\Hid (∀ i,k<=i->(nw m).getD i 0=(nw n).getD i 0)/\Hid (gO w2 wr))
  case atStart=>exact ⟨p,rfl,Nat.le_refl _,Nat.le_refl _,af (fun i hi=>by
   have h1:=HP.out;have h2:=HQ.out;simp [List.getD_eq_getElem?_getD,show (nw m).length<=i by omega,show (nw n).length<=i by omega]),af (gO.refl _)⟩
  case round =>
   obtain ⟨k,rfl,hk,aC,HD,HR⟩:=hrel;by_cases ar:k=0
   ·subst ar
    have hc:=mK (show m=n by
     have h:=FK (HP.out.symm.trans HQ.out) (fun i=>HD.out i (by omega));have h1:=gW m;rw [h,gW] at h1;exact h1.symm)
    have HC:=af hc;clear hc;go_wp2;go_ret;exact ⟨by rw [HC.out];first | done | rfl,by first | exact HK.out.trans HR.out | exact (HK.out.trans HR.out).drew | exact ((HK.out.trans HR.out).drewN _).drewN _⟩
   ·obtain ⟨j,rfl⟩:∃ j,k=j+1:=⟨k - 1,by omega⟩;have al:=HP.out;have am:=HQ.out;obtain ⟨b,o,rfl,hx⟩:=(H1.out.kept HR.out).get j (by omega);obtain ⟨b',o',rfl,hy⟩:=(H2.out.kept HR.out).get j (by omega);have aD:=(lC m).getD j;have aF:=(lC n).getD j
    have aw:Hid ((nw m).getD j 0<(nw n).getD j 0->m<n):=af fun h=>by
     have:=yR (lC m) (al.symm.trans am) (by omega) (fun i hi=>HD.out i (by omega)) h
     rwa [gW,gW] at this
    have ay:Hid ((nw n).getD j 0<(nw m).getD j 0->n<m):=af fun h=>by
     have:=yR (lC n) (am.symm.trans al) (by omega) (fun i hi=>(HD.out i (by omega)).symm) h
     rwa [gW,gW] at this
    have az:Hid ((nw m).getD j 0=(nw n).getD j 0->∀ i,j<=i->(nw m).getD i 0=(nw n).getD i 0):=af fun h i hi=>by
     by_cases e:i=j
     ·rw [e];exact h
     ·exact HD.out i (by omega)
    generalize (nw m).getD j 0=x at *;generalize (nw n).getD j 0=y at *;have e1:((j+1:Nat):Int) - 1=(j:Int):=by omega
    rw [e1];have aG:(0:Int)<=(j:Int):=by omega
    have aH:(j:Int)<(p:Int):=by omega
    clear al am e1;rcases Nat.lt_trichotomy x y with h | h | h
    ·have HC:=af (mL (aw.out h));have h':(x:Int)<(y:Int):=by omega
     go_wp2;go_region;all_goals go_wp2
     all_goals go_ret
     all_goals exact ⟨by rw [HC.out];first | done | rfl,by first | exact HK.out.trans HR.out | exact (HK.out.trans HR.out).drew | exact ((HK.out.trans HR.out).drewN _).drewN _⟩
    ·subst h;have h':¬ (x:Int)<(x:Int):=by omega
     have hr:=af (az.out rfl);go_wp2;go_quiet (fail);go_wp2;go_quiet (fail);go_wp2;go_roundg j
     case measure=>omega
     case rel=>exact ⟨j,rfl,by omega,Nat.le_refl _,hr,af (by first | exact HR.out.drewN _ | exact (HR.out.drewN _).drewN _)⟩
    ·have HC:=af (lY (ay.out h));have h':¬ (x:Int)<(y:Int):=by omega
     have h'':(y:Int)<(x:Int):=by omega
     go_wp2;go_quiet (fail);go_wp2;go_quiet (fail);go_wp2;go_ret;exact ⟨by rw [HC.out];first | done | rfl,by first | exact HK.out.trans HR.out | exact (HK.out.trans HR.out).drew | exact ((HK.out.trans HR.out).drewN _).drewN _⟩
 ·have hc:=lY (rD (m:=n) (n:=m) (by have:=HP.out;have:=HQ.out;omega));have HC:=af hc;have b1:((p:Int) != (q:Int))=true:=by simp;omega
  have b2:decide (p<q)=false:=by simp;omega
  clear hc;go_wp2;go_ret;exact ⟨by rw [HC.out];first | done | rfl,HK.out⟩
theorem ky {w:World} {g n:Nat} (h:gS w g 70 (List.replicate n (.int .u32 0))):gS w g 70 ((List.replicate n 0).map mV):=by
 simpa [mV] using h
theorem xY {L xs ys:List Nat} {i c p:Nat} (h:nv (L.take i)+c*4294967296^i=nv (xs.take i)+nv (ys.take i)) (hi:i=p) (hx:xs.length+1<=p) (hy:ys.length+1<=p) (hL:L.length=p) (wx:Wd xs) (wy:Wd ys):nv L=nv xs+nv ys:=by
 subst hi;rw [ig L _ (by omega),ig xs _ (by omega),ig ys _ (by omega)] at h;have h1:=Nat.lt_of_lt_of_le (kM wx) (Nat.pow_le_pow_right (by omega) (show xs.length<=i - 1 by omega));have h2:=Nat.lt_of_lt_of_le (kM wy) (Nat.pow_le_pow_right (by omega) (show ys.length<=i - 1 by omega));have h3:4294967296^i=4294967296^(i - 1)*4294967296:=by rw [<-Nat.pow_succ,show (i - 1).succ=i by omega]
 have hc:c=0:=by
  rcases Nat.eq_zero_or_pos c with h0 | h0
  ·exact h0
  ·have:1*4294967296^i<=c*4294967296^i:=Nat.mul_le_mul_right _ h0
   omega
 subst hc;omega
theorem FE (va vb:Value) (xs ys:List Nat) (w:World) (ha:WdsAt w va xs) (hb:WdsAt w vb ys) (aw:xs.length<=549755813888) (ay:ys.length<=549755813888) :
  Calls Tryz.prog 178 #[va,vb] w fun e w'=>(∃ v',e=.returned v'/\WdsAt w' v' (nw (nv xs+nv ys)))/\gO w w':=by
 have HA:=af (fun W (hk:gO w W) (i:Nat)=>lK va xs i W (ha.kept hk));have HB:=af (fun W (hk:gO w W) (i:Nat)=>lK vb ys i W (hb.kept hk));have ag:=af ha.wd;have ah:=af hb.wd;obtain ⟨a0,c0,rfl⟩:=ha.shape;obtain ⟨a1,c1,rfl⟩:=hb.shape;obtain ⟨l0,h0⟩:∃ l0,l0=xs.length:=⟨_,rfl⟩;obtain ⟨l1,h1⟩:∃ l1,l1=ys.length:=⟨_,rfl⟩;rw [<-h0] at HA aw⊢;rw [<-h1] at HB ay⊢;have H0:=af h0;have H1:=af h1;obtain ⟨m,hm⟩:∃ m,m=max l0 l1:=⟨_,rfl⟩;have aF:m<=549755813888:=by omega
 have e0:max (l0:Int) (l1:Int)=(m:Int):=by omega
 obtain ⟨p,hp⟩:∃ p,p=m+1:=⟨_,rfl⟩;have e1:(m:Int)+1=(p:Int):=by omega
 have aG:p<=549755813889:=by omega
 have HP:Hid (l0+1<=p/\l1+1<=p):=af (by omega);clear ha hb h0 h1 hm hp;go_enter Tryz.func178,Tryz.ntmps178;go_wp2_with (refine kg 27 70 (.int .u32 0) 4 kf Tryz.underlying27 rfl rfl _ _ rfl p rfl rfl (by omega) (by unfold maxLen;omega) ?_;intro w1 ai aj);have az:=af (ky ai);have aA:=af aj;clear ai aj;go_loopg [6,17] p (fun kx s6 s17 wr=>∃ (i c:Nat) (L:List Nat),s6=.int .u64 c/\s17=.int .i64 i/\i<=p/\p - i<=kx/\c<=1/\Hid (gS wr w.heap.size 70 (L.map mV))/\Hid (L.length=p/\Wd L)/\Hid (nv (L.take i)+c*4294967296^i=nv (xs.take i)+nv (ys.take i))/\Hid (gO w wr))
 case atStart=>exact ⟨0,0,List.replicate p 0,rfl,rfl,Nat.zero_le _,by omega,by omega,az,af ⟨by simp,Wd.zeros _⟩,af (by simp [jR]),aA⟩
 case round =>
  obtain ⟨i,c,L,rfl,rfl,hi,aH,hc,HR,HL,HI,HK⟩:=hrel;by_cases aI:i<p
  ·have hx:=ag.out.getD i;have hy:=ah.out.getD i;have HX:=af (HA.out wr HK.out i);have HY:=af (HB.out wr HK.out i);have f:=HR.out.free i;have aJ:=iT HR.out i (by have:=HL.out.1;omega)
   have al:Hid (∀ s,s=c+xs.getD i 0+ys.getD i 0->(nv (L.take i)+(s % 4294967296)*4294967296^i)+(s / 4294967296)*4294967296^(i+1)=nv (xs.take (i+1))+nv (ys.take (i+1))):=af fun s hs=>by
    have:=rU HI.out hs;rw [gX,gX,<-this,Nat.pow_succ,Nat.mul_comm (4294967296^i)]
   generalize xs.getD i 0=x at *;generalize ys.getD i 0=y at *;generalize L.getD i 0=z at *;have aK:(i:Int)<(p:Int):=by omega
   obtain ⟨s,hs⟩:∃ s,s=c+x+y:=⟨_,rfl⟩;have aL:s<18446744073709551616:=by omega
   obtain ⟨r,hr⟩:∃ r,r=s % 4294967296:=⟨_,rfl⟩;obtain ⟨q,hq⟩:∃ q,q=s / 4294967296:=⟨_,rfl⟩;have aB:r<4294967296:=by omega
   have aC:q<=1:=by omega
   have am:=af (al.out s hs);rw [<-hr,<-hq] at am;have e3:(c:Int)+((x:Int)+(y:Int))=(s:Int):=by omega
   have e6:(s:Int) / 4294967296=(q:Int):=by omega
   have e5:IntKind.u32.wrap (s:Int)=(r:Int):=by rw [IntKind.wrap_u32];omega
   clear hs hr hq al;go_wp2_with (first | (go_at_call 239;(with_reducible refine HX.out.mono ?_);rintro e w2 ⟨rfl,rfl⟩) | (go_at_call 239;(with_reducible refine HY.out.mono ?_);rintro e w2 ⟨rfl,rfl⟩));go_roundg (p - (i+1))
   case measure=>omega
   case rel=>exact ⟨i+1,q,L.set i r,rfl,by go_num,by omega,Nat.le_refl _,aC,af (iR HR.out i r),af ⟨by rw [List.length_set];exact HL.out.1,HL.out.2.set i r aB⟩,af (by rw [kY (by have:=HL.out.1;omega)];exact am.out),af (HK.out.store (Nat.le_refl _) i _)⟩
  ·have ap:i=p:=by omega
   have HV:Hid (nv L=nv xs+nv ys):=af (xY HI.out ap (by have:=HP.out;have:=H0.out;omega) (by have:=HP.out;have:=H1.out;omega) HL.out.1 ag.out ah.out)
   have HT:Hid (Calls Tryz.prog 116 #[.slice (some ⟨w.heap.size,0,none⟩) p p] wr fun e w'=>(∃ v',e=.returned v'/\WdsAt w' v' (nw (nv L)))/\gO wr w'):=af (by
    have h:=l' HR.out (c:=p) (by rw [HL.out.1];exact Nat.le_refl _) (by rw [HL.out.1];omega) HL.out.2;rw [HL.out.1] at h;exact iQ _ _ _ h)
   clear ap;go_wp2_with (go_at_call 116;refine HT.out.mono ?_;rintro e w2 ⟨⟨v2,rfl,aq⟩,aD⟩;have ar:=af aq;clear aq);obtain ⟨a2,c2,rfl⟩:=ar.out.shape;go_ret;exact ⟨⟨_,rfl,by rw [<-HV.out];exact ar.out⟩,HK.out.trans aD⟩
theorem zL {L xs ys:List Nat} {i b p:Nat} (h:nv (L.take i)+nv (ys.take i)=nv (xs.take i)+b*4294967296^i) (hi:i=p) (hx:xs.length=p) (hL:L.length=p) (wL:Wd L) (wx:Wd xs) (ai:nv ys<=nv xs):nv L=nv xs - nv ys:=by
 subst hi;have ag:=kM wx;have ah:=kM wL;rw [hx] at ag;rw [hL] at ah;have hy:=(qn (l:=ys) (k:=i) (by omega)).2;rw [ig L _ (by omega),ig xs _ (by omega),hy] at h
 have hb:b=0:=by
  rcases Nat.eq_zero_or_pos b with h0 | h0
  ·exact h0
  ·have:1*4294967296^i<=b*4294967296^i:=Nat.mul_le_mul_right _ h0
   omega
 subst hb;omega
theorem nE {x y b:Nat} (hx:x<4294967296) (hy:y<4294967296) (hb:b<=1):∃ o b' D:Nat,o<4294967296/\b'<=1/\D<18446744073709551616/\o+y+b=x+b'*4294967296/\D % 4294967296=o/\D / 9223372036854775808=b' /\
  ((y+b<=x/\(x:Int) - y - b=D)\/(x<y/\∃ D1:Nat,(x:Int) - y+18446744073709551616=D1/\(D1:Int) - b=D)\/(x=y/\b=1/\(x:Int) - y - b+18446744073709551616=D)):=by
 by_cases h1:y+b<=x
 ·exact ⟨x - y - b,0,x - y - b,by omega,by omega,by omega,by omega,by omega,by omega,.inl ⟨h1,by omega⟩⟩
 ·by_cases h2:x<y
  ·exact ⟨4294967296+x - y - b,1,18446744073709551616+x - y - b,by omega,by omega,by omega,by omega,by omega,by omega,.inr (.inl ⟨h2,18446744073709551616+x - y,by omega,by omega⟩)⟩
  ·exact ⟨4294967295,1,18446744073709551615,by omega,by omega,by omega,by omega,by omega,by omega,.inr (.inr ⟨by omega,by omega,by omega⟩)⟩
theorem rR {z:Int} {D:Nat} (h:z+18446744073709551616=D) (hz:z<0):IntKind.u64.wrap z=(D:Int):=by rw [IntKind.wrap_u64];omega
theorem yP (va vb:Value) (xs ys:List Nat) (w:World) (ha:WdsAt w va xs) (hb:WdsAt w vb ys) (al:nv ys<=nv xs) :
  Calls Tryz.prog 179 #[va,vb] w fun e w'=>(∃ v',e=.returned (.tuple #[v',.nilIface])/\WdsAt w' v' (nw (nv xs - nv ys)))/\gO w w':=by
 have HA:=af (fun W (hk:gO w W) (i:Nat)=>lK va xs i W (ha.kept hk));have HB:=af (fun W (hk:gO w W) (i:Nat)=>lK vb ys i W (hb.kept hk));have ag:=af (lB va vb xs ys w ha hb);have am:=af ha.wd;have aD:=af hb.wd;have ap:0<=kv (nv xs) (nv ys):=by unfold kv;split <;> (try split) <;> omega
 obtain ⟨cv,aq⟩:∃ cv,cv=kv (nv xs) (nv ys):=⟨_,rfl⟩;rw [<-aq] at ag ap;obtain ⟨a0,c0,rfl⟩:=ha.shape;obtain ⟨a1,c1,rfl⟩:=hb.shape;obtain ⟨p,h0⟩:∃ p,p=xs.length:=⟨_,rfl⟩;have aL:p<=1099511627776:=by rw [h0];exact ha.len
 rw [<-h0] at HA ag⊢;generalize ys.length=l1 at *;have H0:=af h0;have aF:=af al;have hc1:¬ cv<0:=by omega
 clear ha hb h0 al aq ap;go_enter Tryz.func179,Tryz.ntmps179;go_wp2_with fail;refine ag.out.mono ?_;rintro e w0 ⟨rfl,ai⟩;have aG:=af ai;have ah:=ai.size;clear ai;go_wp2_with (refine kg 27 70 (.int .u32 0) 4 kf Tryz.underlying27 rfl rfl _ _ rfl p rfl rfl (by omega) (by unfold maxLen;omega) ?_;intro w1 ar aw);have aH:=af (ky ar);have aI:=af (aG.out.trans aw);clear ar aw;go_loopg [7,20] p (fun kx s7 s20 wr=>∃ (i c:Nat) (L:List Nat),s7=.int .u64 c/\s20=.int .i64 i/\i<=p/\p - i<=kx/\c<=1/\Hid (gS wr w0.heap.size 70 (L.map mV))/\Hid (L.length=p/\Wd L)/\Hid (nv (L.take i)+nv (ys.take i)=nv (xs.take i)+c*4294967296^i)/\Hid (gO w wr))
 case atStart=>exact ⟨0,0,List.replicate p 0,rfl,rfl,Nat.zero_le _,by omega,by omega,aH,af ⟨by simp,Wd.zeros _⟩,af (by simp [jR]),aI⟩
 case round =>
  obtain ⟨i,c,L,rfl,rfl,hi,aM,hc,HR,HL,HI,HK⟩:=hrel;by_cases aN:i<p
  ·have hx:=am.out.getD i;have hy:=aD.out.getD i;have HX:=af (HA.out wr HK.out i);have HY:=af (HB.out wr HK.out i);have f:=HR.out.free i;have aO:=iT HR.out i (by have:=HL.out.1;omega)
   have ay:Hid (∀ o b',o+ys.getD i 0+c=xs.getD i 0+b'*4294967296->(nv (L.take i)+o*4294967296^i)+nv (ys.take (i+1))=nv (xs.take (i+1))+b'*4294967296^(i+1)):=af fun o b' hs=>by
    have:=zM HI.out hs;rw [gX,gX,this,Nat.pow_succ,Nat.mul_comm (4294967296^i)]
   generalize xs.getD i 0=x at *;generalize ys.getD i 0=y at *;generalize L.getD i 0=z at *;have aP:(i:Int)<(p:Int):=by omega
   obtain ⟨o,b',D,ho,hb',hD,az,hm,hd,aJ⟩:=nE hx hy hc;have aj:=af (ay.out o b' az);have e5:IntKind.u32.wrap (D:Int)=(o:Int):=by rw [IntKind.wrap_u32];omega
   have e6:(D:Int) / 9223372036854775808=(b':Int):=by omega
   clear ay az hm hd;rcases aJ with ⟨h1,h2⟩ | ⟨h1,D1,h2,h3⟩ | ⟨h1,h2,h3⟩
   ·go_wp2_with (first | (go_at_call 239;(with_reducible refine HX.out.mono ?_);rintro e w2 ⟨rfl,rfl⟩) | (go_at_call 239;(with_reducible refine HY.out.mono ?_);rintro e w2 ⟨rfl,rfl⟩));go_roundg (p - (i+1))
    case measure=>omega
    case rel=>exact ⟨i+1,b',L.set i o,rfl,by go_num,by omega,Nat.le_refl _,hb',af (iR HR.out i o),af ⟨by rw [List.length_set];exact HL.out.1,HL.out.2.set i o ho⟩,af (by rw [kY (by have:=HL.out.1;omega)];exact aj.out),af (HK.out.store ah i _)⟩
   ·have e1:=rR h2 (by omega);have aQ:D1<18446744073709551616:=by omega
    clear h2;go_wp2_with (first | (go_at_call 239;(with_reducible refine HX.out.mono ?_);rintro e w2 ⟨rfl,rfl⟩) | (go_at_call 239;(with_reducible refine HY.out.mono ?_);rintro e w2 ⟨rfl,rfl⟩));go_roundg (p - (i+1))
    case measure=>omega
    case rel=>exact ⟨i+1,b',L.set i o,rfl,by go_num,by omega,Nat.le_refl _,hb',af (iR HR.out i o),af ⟨by rw [List.length_set];exact HL.out.1,HL.out.2.set i o ho⟩,af (by rw [kY (by have:=HL.out.1;omega)];exact aj.out),af (HK.out.store ah i _)⟩
   ·have e1:=rR h3 (by omega);have g1:x<=y:=by omega
    have g2:y<=x:=by omega
    have g3:1<=c:=by omega
    clear h1 h2 h3;go_wp2_with (first | (go_at_call 239;(with_reducible refine HX.out.mono ?_);rintro e w2 ⟨rfl,rfl⟩) | (go_at_call 239;(with_reducible refine HY.out.mono ?_);rintro e w2 ⟨rfl,rfl⟩));go_roundg (p - (i+1))
    case measure=>omega
    case rel=>exact ⟨i+1,b',L.set i o,rfl,by go_num,by omega,Nat.le_refl _,hb',af (iR HR.out i o),af ⟨by rw [List.length_set];exact HL.out.1,HL.out.2.set i o ho⟩,af (by rw [kY (by have:=HL.out.1;omega)];exact aj.out),af (HK.out.store ah i _)⟩
  ·have aA:i=p:=by omega
   have HV:Hid (nv L=nv xs - nv ys):=af (zL HI.out aA H0.out.symm HL.out.1 HL.out.2 am.out aF.out)
   have HT:Hid (Calls Tryz.prog 116 #[.slice (some ⟨w0.heap.size,0,none⟩) p p] wr fun e w'=>(∃ v',e=.returned v'/\WdsAt w' v' (nw (nv L)))/\gO wr w'):=af (by
    have h:=l' HR.out (c:=p) (by rw [HL.out.1];exact Nat.le_refl _) (by rw [HL.out.1];omega) HL.out.2;rw [HL.out.1] at h;exact iQ _ _ _ h)
   clear aA;go_wp2_with (go_at_call 116;refine HT.out.mono ?_;rintro e w2 ⟨⟨v2,rfl,aB⟩,aK⟩;have aC:=af aB;clear aB);obtain ⟨a2,c2,rfl⟩:=aC.out.shape;go_ret2;exact ⟨⟨_,rfl,by rw [<-HV.out];exact aC.out⟩,HK.out.trans aK⟩
theorem vQ {L ys:List Nat} {c M x i k s:Nat} (h:nv L+c*4294967296^(i+k)=M+x*(nv (ys.take k)*4294967296^i)) (hL:i+k<L.length) (hs:s=c+x*ys.getD k 0+L.getD (i+k) 0) :
  nv (L.set (i+k) (s % 4294967296))+(s / 4294967296)*4294967296^(i+(k+1))=M+x*(nv (ys.take (k+1))*4294967296^i):=by
 have h1:=FD h hs _ (xk L (i+k) (s % 4294967296) hL)
 have h2:nv (ys.take (k+1))*4294967296^i=nv (ys.take k)*4294967296^i+ys.getD k 0*4294967296^(i+k):=by
  rw [gX,Nat.add_mul,Nat.mul_assoc,<-Nat.pow_add,Nat.add_comm k i]
 rw [h2,<-h1,<-Nat.add_assoc,Nat.pow_succ,Nat.mul_comm (4294967296^(i+k)) 4294967296]
theorem Ig {L xs ys:List Nat} {c i:Nat} {N:Nat} (h:nv L+c*4294967296^(i+ys.length)=N+xs.getD i 0*(nv (ys.take ys.length)*4294967296^i)) (hN:N=nv (xs.take i)*nv ys) (hL:i+ys.length<L.length) (h0:L.getD (i+ys.length) 0=0) :
  nv (L.set (i+ys.length) c)=nv (xs.take (i+1))*nv ys:=by
 have h1:=xk L (i+ys.length) c hL;rw [h0,Nat.zero_mul,Nat.add_zero] at h1;rw [h1,h,ig ys _ (Nat.le_refl _),hN,gX,Nat.add_mul,Nat.mul_assoc (xs.getD i 0),Nat.mul_comm (nv ys)]
theorem rP {c x y w:Nat} (hc:c<4294967296) (hx:x<4294967296) (hy:y<4294967296) (hw:w<4294967296):c+x*y+w<18446744073709551616/\x*y<=18446744065119617025/\(c+x*y+w) / 4294967296<4294967296:=by
 have h1:=Dw hc hx hy hw;refine ⟨h1,Nat.mul_le_mul (show x<=4294967295 by omega) (show y<=4294967295 by omega),Nat.div_lt_of_lt_mul (by omega)⟩
theorem zF {L:List Nat} {j p x:Nat} (h:∀ q,p<=q->L.getD q 0=0) (hj:j<p):∀ q,p<=q->(L.set j x).getD q 0=0:=fun q hq=>by rw [kw (by omega)];exact h q hq
theorem kz (va vb:Value) (xs ys:List Nat) (w:World) (ha:WdsAt w va xs) (hb:WdsAt w vb ys) (aH:xs.length<=274877906944) (aI:ys.length<=274877906944) :
  Calls Tryz.prog 156 #[va,vb] w fun e w'=>(∃ v',e=.returned v'/\WdsAt w' v' (nw (nv xs*nv ys)))/\gO w w':=by
 have HA:=af ha;have HB:=af hb;obtain ⟨a0,c0,rfl⟩:=ha.shape;obtain ⟨a1,c1,rfl⟩:=hb.shape;obtain ⟨l0,h0⟩:∃ l0,l0=xs.length:=⟨_,rfl⟩;obtain ⟨l1,h1⟩:∃ l1,l1=ys.length:=⟨_,rfl⟩;rw [<-h0] at HA aH⊢;rw [<-h1] at HB aI⊢;have H0:=af h0;have H1:=af h1;obtain ⟨p,hp⟩:∃ p,p=l0+l1:=⟨_,rfl⟩;have e1:(l0:Int)+(l1:Int)=(p:Int):=by omega
 have aY:p<=549755813888:=by omega
 have HP:Hid (p=l0+l1):=af hp;clear ha hb h0 h1 hp;go_enter Tryz.func156,Tryz.ntmps156;go_wp2_with (refine kg 27 70 (.int .u32 0) 4 kf Tryz.underlying27 rfl rfl _ _ rfl p rfl rfl (by omega) (by unfold maxLen;omega) ?_;intro w1 ar aw);have aJ:=af (ky ar);have aK:=af aw;clear ar aw;go_loopg [19] l0 (fun kx s19 wr=>∃ (i:Nat) (L:List Nat),s19=.int .i64 i/\i<=l0/\l0 - i<=kx/\Hid (gS wr w.heap.size 70 (L.map mV))/\Hid (L.length=p/\Wd L)/\Hid (nv L=nv (xs.take i)*nv ys/\∀ q,i+l1<=q->L.getD q 0=0)/\Hid (gO w wr))
 case atStart=>exact ⟨0,List.replicate p 0,rfl,Nat.zero_le _,by omega,aJ,af ⟨by simp,Wd.zeros _⟩,af ⟨by rw [qR];simp [jR],fun q _=>by simp [List.getD_eq_getElem?_getD,List.getElem?_replicate];split <;> rfl⟩,aK⟩
 case round =>
  obtain ⟨wo,rfl⟩:∃ wo:World,wo=wr:=⟨_,rfl⟩;obtain ⟨i,L,rfl,hi,aZ,HR,HL,HI,HK⟩:=hrel;by_cases a_:i<l0
  ·obtain ⟨b,o,rfl,aL⟩:=(HA.out.kept HK.out).get i (by have:=H0.out;omega);have hx:=HA.out.wd.getD i;obtain ⟨x,aj⟩:∃ x,x=xs.getD i 0:=⟨_,rfl⟩;rw [<-aj] at aL hx;have HX:=af aj;have bd:(i:Int)<(l0:Int):=by omega
   clear aj;go_wp2;go_loopg [8,26] l1 (fun kx s8 s26 wq=>∃ (k c:Nat) (L':List Nat),s8=.int .u64 c/\s26=.int .i64 k/\k<=l1/\l1 - k<=kx/\c<4294967296/\Hid (gS wq w.heap.size 70 (L'.map mV))/\Hid (L'.length=p/\Wd L')/\Hid (nv L'+c*4294967296^(i+k)=nv L+x*(nv (ys.take k)*4294967296^i)/\∀ q,i+l1<=q->L'.getD q 0=0)/\Hid (gO w wq))
   case atStart=>exact ⟨0,0,L,rfl,rfl,Nat.zero_le _,by omega,by omega,HR,HL,af ⟨by simp [jR],HI.out.2⟩,HK⟩
   case round =>
    obtain ⟨k,c,L',rfl,rfl,hk,aM,hc,ah,ag,ai,al⟩:=hrel;by_cases aN:k<l1
    ·obtain ⟨b2,o2,rfl,bf⟩:=(HB.out.kept al.out).get k (by have:=H1.out;omega);have hy:=HB.out.wd.getD k;have am:=HP.out;have ay:i+k<L'.length:=by have:=ag.out.1;omega
     have aO:i+k<p:=by omega
     have f:=ah.out.free (i+k);have aP:=iT ah.out (i+k) ay;have aQ:=ag.out.2.getD (i+k);have az:Hid (∀ s,s=c+x*ys.getD k 0+L'.getD (i+k) 0->nv (L'.set (i+k) (s % 4294967296))+(s / 4294967296)*4294967296^(i+(k+1))=nv L+x*(nv (ys.take (k+1))*4294967296^i)):=af fun s hs=>vQ ai.out.1 ay hs
     generalize ys.getD k 0=y at *;generalize L'.getD (i+k) 0=z at *;obtain ⟨aR,aS,ap⟩:=rP hc hx hy aQ;obtain ⟨s,hs⟩:∃ s,s=c+x*y+z:=⟨_,rfl⟩;have aA:=af (az.out s hs);rw [<-hs] at aR ap;obtain ⟨xy,aq⟩:∃ xy,xy=x*y:=⟨_,rfl⟩;rw [<-aq] at hs aS;have exy:(x:Int)*(y:Int)=(xy:Int):=by rw [aq];simp
     obtain ⟨r,hr⟩:∃ r,r=s % 4294967296:=⟨_,rfl⟩;obtain ⟨q,hq⟩:∃ q,q=s / 4294967296:=⟨_,rfl⟩;rw [<-hr,<-hq] at aA;rw [<-hq] at ap;have aT:r<4294967296:=by omega
     have es:(c:Int)+((xy:Int)+(z:Int))=(s:Int):=by omega
     have e6:(s:Int) / 4294967296=(q:Int):=by omega
     have eik:(i:Int)+(k:Int)=((i+k:Nat):Int):=by omega
     have aU:(k:Int)<(l1:Int):=by omega
     have e5:IntKind.u32.wrap (s:Int)=(r:Int):=by rw [IntKind.wrap_u32];omega
     clear hs hr hq az aq am eik;go_wp2;go_roundg (l1 - (k+1))
     case measure=>omega
     case rel=>exact ⟨k+1,q,L'.set (i+k) r,rfl,by go_num,by omega,Nat.le_refl _,ap,af (iR ah.out (i+k) r),af ⟨by rw [List.length_set];exact ag.out.1,ag.out.2.set _ r aT⟩,af ⟨aA.out,zF ai.out.2 (by omega)⟩,af (al.out.store (Nat.le_refl _) _ _)⟩
    ·have aB:k=l1:=by omega
     have am:=HP.out;have aC:i+l1<L'.length:=by have:=ag.out.1;omega
     have aV:i+l1<p:=by omega
     have aW:Hid (nv (L'.set (i+l1) c)=nv (xs.take (i+1))*nv ys):=af (by
      have h:=ai.out.1;rw [aB,HX.out,H1.out] at h;rw [H1.out];exact Ig h HI.out.1 (by rw [<-H1.out];exact aC) (by rw [<-H1.out];exact ai.out.2 _ (Nat.le_refl _)))
     have f:=ah.out.free (i+l1);have aP:=iT ah.out (i+l1) aC;have e5:IntKind.u32.wrap (c:Int)=(c:Int):=by rw [IntKind.wrap_u32];omega
     clear aB am;go_wp2;go_roundg (l0 - (i+1))
     case measure=>omega
     case rel=>exact ⟨i+1,L'.set (i+l1) c,by go_num,by omega,Nat.le_refl _,af (iR ah.out (i+l1) c),af ⟨by rw [List.length_set];exact ag.out.1,ag.out.2.set _ c hc⟩,af ⟨aW.out,zF (fun q hq=>ai.out.2 q (by omega)) (by omega)⟩,af (al.out.store (Nat.le_refl _) _ _)⟩
  ·have aD:i=l0:=by omega
   have HV:Hid (nv L=nv xs*nv ys):=af (by have:=HI.out.1;rw [aD,H0.out,ig _ _ (Nat.le_refl _)] at this;exact this)
   have HT:Hid (Calls Tryz.prog 116 #[.slice (some ⟨w.heap.size,0,none⟩) p p] wo fun e w'=>(∃ v',e=.returned v'/\WdsAt w' v' (nw (nv L)))/\gO wo w'):=af (by
    have h:=l' HR.out (c:=p) (by rw [HL.out.1];exact Nat.le_refl _) (by rw [HL.out.1];omega) HL.out.2;rw [HL.out.1] at h;exact iQ _ _ _ h)
   clear aD;go_wp2_with (go_at_call 116;refine HT.out.mono ?_;rintro e w2 ⟨⟨v2,rfl,aF⟩,aX⟩;have aG:=af aF;clear aF);obtain ⟨a2,c2,rfl⟩:=aG.out.shape;go_ret;exact ⟨⟨_,rfl,by rw [<-HV.out];exact aG.out⟩,HK.out.trans aX⟩
theorem lP (a:Nat) (h:a<4294967296):(BitVec.ofInt 32 (a:Int)).toNat=a:=by
 rw [BitVec.ofInt_natCast,BitVec.toNat_ofNat];exact Nat.mod_eq_of_lt (by omega)
theorem JA (a b:Nat) (ha:a<4294967296) (hb:b<4294967296):bits .or .u32 (a:Int) (b:Int)=((a ||| b:Nat):Int):=by
 have h:(BitVec.ofInt 32 (a:Int) ||| BitVec.ofInt 32 (b:Int)).toNat=a ||| b:=by rw [BitVec.toNat_or,lP a ha,lP b hb]
 show IntKind.u32.wrap (((BitVec.ofInt 32 (a:Int) ||| BitVec.ofInt 32 (b:Int)).toNat:Nat):Int)=_;rw [h,IntKind.wrap_u32];have:=Nat.or_lt_two_pow (n:=32) (x:=a) (y:=b) (by omega) (by omega);omega
theorem pd (r x:Nat) (hr:r<4294967296) (hx:x<4294967296):bits .or .u64 ((r:Int)*4294967296) (x:Int)=((r*4294967296+x:Nat):Int):=by
 have h:=tR (r*4294967296) x (by omega) (by omega)
 have e:(r*4294967296 ||| x)=r*4294967296+x:=by
  rw [Nat.mul_comm,show (4294967296:Nat)=2^32 by rfl,<-Nat.two_pow_add_eq_or_of_lt (by omega)]
 rw [e] at h;rw [<-h];simp
theorem wt (va:Value) (xs:List Nat) (d:Nat) (w:World) (ha:WdsAt w va xs) (aw:0<d) (hd:d<4294967296) :
  Calls Tryz.prog 147 #[va,.int .u32 d] w fun e w'=>(∃ v',e=.returned (.tuple #[v',.int .u32 (nv xs % d:Nat)])/\WdsAt w' v' (nw (nv xs / d)))/\gO w w':=by
 have HA:=af ha;obtain ⟨a0,c0,rfl⟩:=ha.shape;obtain ⟨n,hn⟩:∃ n,n=xs.length:=⟨_,rfl⟩;have aD:n<=1099511627776:=by rw [hn];exact ha.len
 rw [<-hn] at HA⊢;have HN:=af hn;clear ha hn;go_enter Tryz.func147,Tryz.ntmps147;go_wp2_with (refine kg 27 70 (.int .u32 0) 4 kf Tryz.underlying27 rfl rfl _ _ rfl n rfl rfl (by omega) (by unfold maxLen;omega) ?_;intro w1 al am);have ay:=af (ky al);have az:=af am;clear al am;go_loopg [7,8] n (fun kx s7 s8 wr=>∃ (k r:Nat) (L:List Nat),s7=.int .u64 r/\s8=.int .i64 ((k:Int) - 1)/\k<=n/\k<=kx/\r<d/\Hid (gS wr w.heap.size 70 (L.map mV))/\Hid (L.length=n/\Wd L)/\Hid (nv (xs.drop k)=d*nv (L.drop k)+r)/\Hid (gO w wr))
 case atStart=>exact ⟨n,0,List.replicate n 0,rfl,rfl,Nat.le_refl _,Nat.le_refl _,aw,ay,af ⟨by simp,Wd.zeros _⟩,af (by rw [kB (by rw [<-HN.out];exact Nat.le_refl _),kB (by simp)];simp),az⟩
 case round =>
  obtain ⟨k,r,L,rfl,rfl,hk,aF,hr,HR,HL,HI,HK⟩:=hrel;by_cases aA:k=0
  ·subst aA;have hI:=HI.out;simp only [List.drop_zero] at hI;obtain ⟨h1,h2⟩:=EY hI hr;have H1:=af h1;have H2:=af h2
   have HT:Hid (Calls Tryz.prog 116 #[.slice (some ⟨w.heap.size,0,none⟩) n n] wr fun e w'=>(∃ v',e=.returned v'/\WdsAt w' v' (nw (nv L)))/\gO wr w'):=af (by
    have h:=l' HR.out (c:=n) (by rw [HL.out.1];exact Nat.le_refl _) (by rw [HL.out.1];omega) HL.out.2;rw [HL.out.1] at h;exact iQ _ _ _ h)
   have e5:IntKind.u32.wrap (r:Int)=(r:Int):=by rw [IntKind.wrap_u32];omega
   clear hI h1 h2;go_wp2_with (go_at_call 116;refine HT.out.mono ?_;rintro e w2 ⟨⟨v2,rfl,ap⟩,aB⟩;have aq:=af ap;clear ap);obtain ⟨a2,c2,rfl⟩:=aq.out.shape;go_ret2;exact ⟨⟨_,by rw [H2.out];first | done | rfl,by rw [H1.out];exact aq.out⟩,HK.out.trans aB⟩
  ·obtain ⟨j,rfl⟩:∃ j,k=j+1:=⟨k - 1,by omega⟩;obtain ⟨b,o,rfl,aG⟩:=(HA.out.kept HK.out).get j (by have:=HN.out;omega);have hx:=HA.out.wd.getD j;have aj:j<L.length:=by have:=HL.out.1;omega
   have f:=HR.out.free j;have aH:=iT HR.out j aj
   have ar:Hid (∀ cur,cur=r*4294967296+xs.getD j 0->(nv (xs.drop j)=d*nv ((L.set j (cur / d)).drop j)+cur % d)/\cur % d<d/\cur / d<4294967296/\cur<18446744073709551616):=af fun cur hc=>by
    obtain ⟨h1,h2,h3,h4⟩:=Bx HI.out hr hd hx hc;refine ⟨?_,h2,h3,h4⟩;rw [iG (l:=xs) (i:=j) (by have:=HN.out;omega),iG (l:=L.set j (cur / d)) (i:=j) (by rw [List.length_set];exact aj),lO aj,List.drop_set_of_lt (by omega)];exact h1
   generalize xs.getD j 0=x at *;generalize L.getD j 0=z at *;have eor:=pd r x (by omega) hx;obtain ⟨cur,ag⟩:∃ cur,cur=r*4294967296+x:=⟨_,rfl⟩;obtain ⟨h1,h2,h3,h4⟩:=ar.out cur ag;rw [<-ag] at eor;obtain ⟨qq,ah⟩:∃ qq,qq=cur / d:=⟨_,rfl⟩;obtain ⟨rr,ai⟩:∃ rr,rr=cur % d:=⟨_,rfl⟩;rw [<-ah,<-ai] at h1;rw [<-ah] at h3;rw [<-ai] at h2;have eq1:(cur:Int) / (d:Int)=(qq:Int):=by rw [ah];simp
   have eq2:(cur:Int) % (d:Int)=(rr:Int):=by rw [ai];simp
   have aC:=af h1;have ej:((j+1:Nat):Int) - 1=(j:Int):=by omega
   have aI:(j:Int)<(n:Int):=by omega
   have aJ:(0:Int)<=(j:Int):=by omega
   clear h1 ar ag ah ai;rw [ej];go_wp2;go_roundg j
   case measure=>omega
   case rel=>exact ⟨j,rr,L.set j qq,by rw [eq2],rfl,by omega,Nat.le_refl _,h2,af (iR HR.out j qq),af ⟨by rw [List.length_set];exact HL.out.1,HL.out.2.set j qq h3⟩,aC,af (HK.out.store (Nat.le_refl _) j _)⟩
theorem GH (x n:Nat) (hx:x<4294967296) (hn:n<32):x*2^n<18446744073709551616:=(GZ (y:=x*2^n) hn hx rfl).1
theorem AG {L xs:List Nat} {i n y x w:Nat} (hn:n<32) (hI:nv L=nv (xs.take i)*2^n) (hw:w=L.getD i 0) (ag:w<2^n) (hz:L.getD (i+1) 0=0) (hx:x=xs.getD i 0) (hy:y=x*2^n) (hi:i+1<L.length) :
  nv ((L.set i (w ||| (y % 4294967296))).set (i+1) (y / 4294967296))=nv (xs.take (i+1))*2^n/\(w ||| (y % 4294967296))<4294967296:=by
 have h1:=xk L i (w ||| (y % 4294967296)) (by omega);have h2:=xk (L.set i (w ||| (y % 4294967296))) (i+1) (y / 4294967296) (by rw [List.length_set];exact hi);rw [kw (by omega),hz,Nat.zero_mul,Nat.add_zero] at h2;rw [<-hw] at h1
 have h3:nv ((L.set i (w ||| (y % 4294967296))).set (i+1) (y / 4294967296))+w*4294967296^i=nv L+(w ||| (y % 4294967296))*4294967296^i+(y / 4294967296)*(4294967296*4294967296^i):=by
  rw [h2,Nat.pow_succ,Nat.mul_comm (4294967296^i) 4294967296];omega
 obtain ⟨h4,h5⟩:=IC hn hI hy ag _ h3;refine ⟨by rw [h5,gX,hx],?_⟩;have h6:w<2^32:=Nat.lt_of_lt_of_le ag (Nat.pow_le_pow_right (by omega) (by omega));exact Nat.or_lt_two_pow (n:=32) h6 (by omega)
theorem Fs (va:Value) (xs:List Nat) (n:Nat) (w:World) (ha:WdsAt w va xs) (hn:n<32) (az:xs.length<=549755813888) :
  Calls Tryz.prog 235 #[va,.int .i64 n] w fun e w'=>(∃ L,e=.returned (.slice (some ⟨w.heap.size,0,none⟩) (xs.length+1) (xs.length+1))/\gS w' w.heap.size 70 (L.map mV)/\L.length=xs.length+1/\Wd L/\nv L=nv xs*2^n)/\gO w w':=by
 have HA:=af ha;obtain ⟨a0,c0,rfl⟩:=ha.shape;obtain ⟨l0,h0⟩:∃ l0,l0=xs.length:=⟨_,rfl⟩;rw [<-h0] at HA az⊢;have H0:=af h0;obtain ⟨p,hp⟩:∃ p,p=l0+1:=⟨_,rfl⟩;have e1:(l0:Int)+1=(p:Int):=by omega
 have aO:p<=549755813889:=by omega
 rw [<-hp];clear ha h0;have HP:=af hp;clear hp;go_enter Tryz.func235,Tryz.ntmps235;go_wp2_with (refine kg 27 70 (.int .u32 0) 4 kf Tryz.underlying27 rfl rfl _ _ rfl p rfl rfl (by omega) (by unfold maxLen;omega) ?_;intro w1 aq ar);have aA:=af (ky aq);have aB:=af ar;clear aq ar;go_loopg [15] l0 (fun kx s15 wr=>∃ (i:Nat) (L:List Nat),s15=.int .i64 i/\i<=l0/\l0 - i<=kx/\Hid (gS wr w.heap.size 70 (L.map mV))/\Hid (L.length=p/\Wd L)/\Hid (nv L=nv (xs.take i)*2^n/\L.getD i 0<2^n/\∀ q,i<q->L.getD q 0=0)/\Hid (gO w wr))
 case atStart=>exact ⟨0,List.replicate p 0,rfl,Nat.zero_le _,by omega,aA,af ⟨by simp,Wd.zeros _⟩,af ⟨by rw [qR];simp [jR],by simp [List.getD_eq_getElem?_getD,List.getElem?_replicate];split <;> exact Nat.two_pow_pos n,fun q _=>by simp [List.getD_eq_getElem?_getD,List.getElem?_replicate];split <;> rfl⟩,aB⟩
 case round =>
  obtain ⟨i,L,rfl,hi,aP,HR,HL,HI,HK⟩:=hrel;by_cases aQ:i<l0
  ·obtain ⟨b,o,rfl,aC⟩:=(HA.out.kept HK.out).get i (by have:=H0.out;omega);have hx:=HA.out.wd.getD i;have aD:=HP.out;have aF:i<L.length:=by have:=HL.out.1;omega
   have ah:i+1<L.length:=by have:=HL.out.1;omega
   have aR:i<p:=by omega
   have aG:i+1<p:=by omega
   have f:=HR.out.free i;have f1:=HR.out.free (i+1);have aH:=iT HR.out i aF;have al:=iT HR.out (i+1) ah;have hz:=HI.out.2.2 (i+1) (by omega);rw [hz] at al;obtain ⟨x,am⟩:∃ x,x=xs.getD i 0:=⟨_,rfl⟩;obtain ⟨y,aj⟩:∃ y,y=x*2^n:=⟨_,rfl⟩;obtain ⟨z,ai⟩:∃ z,z=L.getD i 0:=⟨_,rfl⟩;rw [<-am] at aC hx;rw [<-ai] at aH;have aI:z<4294967296:=by rw [ai];exact HL.out.2.getD i
   obtain ⟨ap,aw⟩:=AG hn HI.out.1 ai (by rw [ai];exact HI.out.2.1) hz am aj ah;obtain ⟨aJ,ag⟩:=GZ hn hx aj;have ey:(x:Int)*2^n=(y:Int):=by rw [aj];simp
   obtain ⟨q,hq⟩:∃ q,q=y / 4294967296:=⟨_,rfl⟩;obtain ⟨r,hr⟩:∃ r,r=y % 4294967296:=⟨_,rfl⟩;obtain ⟨t,ht⟩:∃ t,t=(z ||| r):=⟨_,rfl⟩;rw [<-hq,<-hr,<-ht] at ap;rw [<-hr,<-ht] at aw;rw [<-hq] at ag;have aK:q<4294967296:=by omega
   have aL:r<4294967296:=by omega
   have e6:(y:Int) / 4294967296=(q:Int):=by omega
   have e5:IntKind.u32.wrap (y:Int)=(r:Int):=by rw [IntKind.wrap_u32];omega
   have e7:bits .or .u32 (z:Int) (r:Int)=(t:Int):=by rw [ht];exact JA z r aI aL
   have aM:=af ap;have aN:=af ag;have aS:(i:Int)<(l0:Int):=by omega
   clear ap aj am ai hq hr ht hz aD ag;go_wp2;go_roundg (l0 - (i+1))
   case measure=>omega
   case rel =>
    refine ⟨i+1,(L.set i t).set (i+1) q,by go_num,by omega,Nat.le_refl _,af (iR (iR HR.out i t) (i+1) q),af ⟨by rw [List.length_set,List.length_set];exact HL.out.1,(HL.out.2.set i t aw).set _ q aK⟩,af ⟨aM.out,?_,fun j hj=>?_⟩,af ((HK.out.store (Nat.le_refl _) _ _).store (Nat.le_refl _) _ _)⟩
    ·rw [lO (by rw [List.length_set];exact ah)];exact aN.out
    ·rw [kw (by omega),kw (by omega)];exact HI.out.2.2 j (by omega)
  ·have ay:i=l0:=by omega
   have HV:Hid (nv L=nv xs*2^n):=af (by have:=HI.out.1;rw [ay,H0.out,ig _ _ (Nat.le_refl _)] at this;exact this);clear ay;go_wp2;go_ret;exact ⟨⟨L,rfl,HR.out,HL.out.1,HL.out.2,HV.out⟩,HK.out⟩
theorem uy {xs:List Nat} {n i:Nat} (hn:n<32) (hi:i<xs.length) (hw:Wd xs):∃ t u:Nat,bits .or .u64 ((xs.getD i 0:Nat):Int) (((xs.getD (i+1) 0:Nat):Int)*4294967296)=(t:Int)/\(t:Int) / 2^n=(u:Int)/\t<18446744073709551616/\u<=t/\u % 4294967296=(nv xs / 2^n / 4294967296^i) % 4294967296:=by
 have h0:=hw.getD i;have h1:=hw.getD (i+1);refine ⟨xs.getD i 0 ||| xs.getD (i+1) 0*4294967296,(xs.getD i 0 ||| xs.getD (i+1) 0*4294967296) / 2^n,?_,by simp,?_,Nat.div_le_self _ _,CT n i hn hi hw⟩
 ·have h:=tR (xs.getD i 0) (xs.getD (i+1) 0*4294967296) (by omega) (by omega);rw [<-h];simp
 ·exact Nat.or_lt_two_pow (n:=64) (by omega) (by omega)
theorem DV (va:Value) (xs:List Nat) (n:Nat) (w:World) (ha:WdsAt w va xs) (hn:n<32) :
  Calls Tryz.prog 238 #[va,.int .i64 n] w fun e w'=>(∃ v' L,e=.returned v'/\WdsAt w' v' L/\nv L=nv xs / 2^n)/\gO w w':=by
 have HW:=af (fun W (hk:gO w W) (i:Nat)=>lK va xs i W (ha.kept hk));have HA:=af ha;obtain ⟨a0,c0,rfl⟩:=ha.shape;obtain ⟨l0,h0⟩:∃ l0,l0=xs.length:=⟨_,rfl⟩;have ar:l0<=1099511627776:=by rw [h0];exact ha.len
 rw [<-h0] at HW⊢;have H0:=af h0;clear ha h0;go_enter Tryz.func238,Tryz.ntmps238;go_wp2_with (refine kg 27 70 (.int .u32 0) 4 kf Tryz.underlying27 rfl rfl _ _ rfl l0 rfl rfl (by omega) (by unfold maxLen;omega) ?_;intro w1 ag ah);have al:=af (ky ag);have am:=af ah;clear ag ah;go_loopg [12] l0 (fun kx s12 wr=>∃ (i:Nat) (L:List Nat),s12=.int .i64 i/\i<=l0/\l0 - i<=kx/\Hid (gS wr w.heap.size 70 (L.map mV))/\Hid (L.length=l0/\Wd L)/\Hid (nv (L.take i)=nv xs / 2^n % 4294967296^i)/\Hid (gO w wr))
 case atStart=>exact ⟨0,List.replicate l0 0,rfl,Nat.zero_le _,by omega,al,af ⟨by simp,Wd.zeros _⟩,af (by simp [jR,Nat.mod_one]),am⟩
 case round =>
  obtain ⟨i,L,rfl,hi,aw,HR,HL,HI,HK⟩:=hrel;by_cases ay:i<l0
  ·have ai:i<L.length:=by have:=HL.out.1;omega
   have f:=HR.out.free i;have az:=iT HR.out i ai;obtain ⟨t,u,h1,h2,h3,h4,h5⟩:=uy hn (by have:=H0.out;omega:i<xs.length) HA.out.wd;have hx:=HA.out.wd.getD i;have aA:=HA.out.wd.getD (i+1);have HX:=af (HW.out wr HK.out i);have ap:=af (HW.out wr HK.out (i+1));generalize xs.getD i 0=x at *;generalize xs.getD (i+1) 0=x1 at *;obtain ⟨r,hr⟩:∃ r,r=u % 4294967296:=⟨_,rfl⟩;have aq:r<4294967296:=by omega
   have e5:IntKind.u32.wrap (u:Int)=(r:Int):=by rw [IntKind.wrap_u32];omega
   have HS:Hid (nv ((L.set i r).take (i+1))=nv xs / 2^n % 4294967296^(i+1)):=af (by rw [kY ai,HI.out,hr,h5,qO]);have aB:(i:Int)<(l0:Int):=by omega
   clear h5 hr;go_wp2_with (first | (go_at_call 239;(with_reducible refine HX.out.mono ?_);rintro e w2 ⟨rfl,rfl⟩) | (go_at_call 239;refine ap.out.mono ?_;rintro e w2 ⟨rfl,rfl⟩));go_roundg (l0 - (i+1))
   case measure=>omega
   case rel=>exact ⟨i+1,L.set i r,by go_num,by omega,Nat.le_refl _,af (iR HR.out i r),af ⟨by rw [List.length_set];exact HL.out.1,HL.out.2.set i r aq⟩,HS,af (HK.out.store (Nat.le_refl _) _ _)⟩
  ·have aj:i=l0:=by omega
   have HV:Hid (nv L=nv xs / 2^n):=af (by
    have h:=HI.out;rw [aj,ig _ _ (by rw [HL.out.1];exact Nat.le_refl _)] at h;rw [h];refine Nat.mod_eq_of_lt (Nat.lt_of_le_of_lt (Nat.div_le_self _ _) ?_);rw [H0.out];exact kM HA.out.wd)
   have HF:Hid (WdsAt wr (.slice (some ⟨w.heap.size,0,none⟩) l0 l0) L):=af (by
    have h:=l' HR.out (c:=l0) (by rw [HL.out.1];exact Nat.le_refl _) (by rw [HL.out.1];omega) HL.out.2;rw [HL.out.1] at h;exact h)
   clear aj;go_wp2;go_ret;exact ⟨⟨_,L,rfl,HF.out,HV.out⟩,HK.out⟩
structure iq (g:Nat) (w w':World):Prop where
 os:w'.os=w.os
 tape:w'.tape=w.tape
 output:w'.output=w.output
 size:w.heap.size<=w'.heap.size
 block:∀ k,k<w.heap.size->k≠g->w'.heap[k]?=w.heap[k]?
theorem iq.refl (g:Nat) (w:World):iq g w w:=⟨rfl,rfl,rfl,Nat.le_refl _,fun _ _ _=>rfl⟩
theorem iq.trans {g:Nat} {a b c:World} (h:iq g a b) (k:iq g b c):iq g a c :=
 ⟨k.os.trans h.os,k.tape.trans h.tape,k.output.trans h.output,Nat.le_trans h.size k.size,fun i hi ag=>(k.block i (Nat.lt_of_lt_of_le hi h.size) ag).trans (h.block i hi ag)⟩
theorem iq.kept {g:Nat} {a b:World} (h:gO a b):iq g a b:=⟨h.os,h.tape,h.output,h.size,fun i hi _=>h.block i hi⟩
theorem iq.store {g:Nat} {a b:World} (h:iq g a b) (i:Nat) (u:Value):iq g a (b.setCell ⟨g,i,none⟩ u):=by
 have h3:Below 0 b (b.setCell ⟨g,i,none⟩ u):=Below.setCell (Below.refl _ _) (Nat.zero_le _) _;exact ⟨h3.os.trans h.os,h3.tape.trans h.tape,h3.output.trans h.output,Nat.le_trans h.size h3.size,fun k hk ag=>(Below.heap_setCell b ⟨g,i,none⟩ u k ag).trans (h.block k hk ag)⟩
theorem iq.row {g p:Nat} {w w':World} {e:TypeId} {xs:List Value} (h:iq g w w') (hr:gS w p e xs) (ag:p≠g):gS w' p e xs:=hr.same (h.block p hr.lt ag)
theorem iq.toKept {g:Nat} {w0 w w':World} (h:iq g w w') (hk:gO w0 w) (hg:w0.heap.size<=g):gO w0 w' :=
 ⟨h.os.trans hk.os,h.tape.trans hk.tape,h.output.trans hk.output,Nat.le_trans hk.size h.size,fun k hk'=>(h.block k (Nat.lt_of_lt_of_le hk' hk.size) (by omega)).trans (hk.block k hk')⟩
theorem drop_set (l:List Nat) (o i x:Nat):(l.set (o+i) x).drop o=(l.drop o).set i x:=by
 rw [List.drop_set,if_neg (by omega),Nat.add_sub_cancel_left]
theorem CC {l:List Nat} {o i x:Nat} (h:o+i<l.length):nv (((l.set (o+i) x).drop o).take (i+1))=nv ((l.drop o).take i)+x*4294967296^i:=by
 rw [drop_set,kY (by rw [List.length_drop];omega)]
theorem zD (l:List Nat) (o i:Nat):nv ((l.drop o).take (i+1))=nv ((l.drop o).take i)+l.getD (o+i) 0*4294967296^i:=by
 rw [gX,kV]
theorem GN (g gv o m k c cv n:Nat) (U V:List Nat) (w:World) (hU:gS w g 70 (U.map mV)) (hV:gS w gv 70 (V.map mV)) (aN:gv≠g) (aC:Wd U) (ar:Wd V) (hk:k=m+1) (aD:o+k<=U.length) (aW:m<=V.length) (aX:m<=549755813888) (aY:m<=cv) (hn:n<4294967296) (_hc:k<=c) :
  Calls Tryz.prog 236 #[.slice (some ⟨g,o,none⟩) k c,.slice (some ⟨gv,0,none⟩) m cv,.int .u64 n] w fun e w'=>(∃ (b:Nat) (U':List Nat),e=.returned (.bool ((b:Int) == 1))/\b<=1/\gS w' g 70 (U'.map mV)/\Wd U'/\U'.length=U.length/\(∀ j,j<o\/o+k<=j->U'.getD j 0=U.getD j 0) /\
   nv ((U'.drop o).take k)+n*nv (V.take m)=nv ((U.drop o).take k)+b*4294967296^k)/\iq g w w':=by
 have HU:=af hU;have aO:=af aD;have aP:=af aC;have HK:=af hk;have aZ:k<=549755813889:=by omega
 have al:(V.take m).length=m:=by rw [List.length_take];omega
 have aF:=af al;have aQ:Hid (Wd (V.take m)):=af (ar.take m)
 have aR:Hid (∀ W,iq g w W->∀ i:Nat,Calls Tryz.prog 239 #[.slice (some ⟨gv,0,none⟩) m cv,.int .i64 i] W fun e w'=>e=.returned (.int .u64 (((V.take m).getD i 0:Nat):Int))/\W=w'):=af fun W hW i=>by
  have h:=hW.row hV aN
  have h2:WdsAt W (.slice (some ⟨gv,0,none⟩) m cv) (V.take m):=by
   refine ⟨_,cv,by rw [al],⟨by omega,fun h=>by cases h⟩,by omega,ar.take m,fun j hj=>⟨gv,0,rfl,?_⟩⟩;rw [al] at hj;have:=iT h j (by omega);rw [jQ hj,Nat.zero_add];exact this
  exact lK _ _ i W h2
 clear hU aD aC hk al hV ar;go_enter Tryz.func236,Tryz.ntmps236;go_wp2;go_loopg [7,8,13] k (fun kx s7 s8 s13 wr=>∃ (i cy b:Nat) (U':List Nat),s7=.int .u64 cy/\s8=.int .u64 b/\s13=.int .i64 i/\i<=k/\k - i<=kx/\cy<4294967296/\b<=1/\Hid (gS wr g 70 (U'.map mV))/\Hid (Wd U'/\U'.length=U.length/\(∀ j,j<o\/o+i<=j->U'.getD j 0=U.getD j 0)/\(m<i->cy=0))/\Hid (nv ((U'.drop o).take i)+n*nv ((V.take m).take i)=nv ((U.drop o).take i)+b*4294967296^i+cy*4294967296^i)/\Hid (iq g w wr))
 case atStart=>exact ⟨0,0,0,U,rfl,rfl,rfl,Nat.zero_le _,by omega,by omega,by omega,HU,af ⟨aP.out,rfl,fun _ _=>rfl,fun h=>rfl⟩,af (by simp [jR]),af (iq.refl _ _)⟩
 case round =>
  obtain ⟨i,cy,b,U',rfl,rfl,rfl,hi,a_,aS,hb,HR,HL,HI,HO⟩:=hrel;by_cases bd:i<k
  ·have aG:o+i<U'.length:=by have h1:=HL.out.2.1;have h2:=aO.out;omega
   have f:=HR.out.free (o+i);have bf:=iT HR.out (o+i) aG;have aT:=HL.out.1.getD (o+i);have aH:U'.getD (o+i) 0=U.getD (o+i) 0:=HL.out.2.2.1 _ (.inr (Nat.le_refl _));have aI:=aQ.out.getD i;have aw:m<=i->(V.take m).getD i 0=0:=fun h=>by rw [List.getD_eq_getElem?_getD,List.getElem?_eq_none (by rw [aF.out];exact h)];rfl
   have HX:=af (aR.out wr HO.out i)
   have am:Hid (∀ s oo b',s=cy+n*(V.take m).getD i 0->oo+s % 4294967296+b=U'.getD (o+i) 0+b'*4294967296->nv (((U'.set (o+i) oo).drop o).take (i+1))+n*nv ((V.take m).take (i+1))=nv ((U.drop o).take (i+1))+b'*4294967296^(i+1)+(s / 4294967296)*4294967296^(i+1)):=af fun s oo b' hs ho=>by
    have h:=Ej HI.out hs (aH ▸ ho);rw [CC aG,gX,zD U,h,Nat.pow_succ,Nat.mul_comm (4294967296^i)]
   obtain ⟨y,aJ⟩:∃ y,y=(V.take m).getD i 0:=⟨_,rfl⟩;rw [<-aJ] at aI aw HX am;generalize U'.getD (o+i) 0=x at *;obtain ⟨ay,aU,ah⟩:=rP aS hn aI (show 0<4294967296 by omega);simp only [Nat.add_zero] at ay ah;obtain ⟨ny,ap⟩:∃ ny,ny=n*y:=⟨_,rfl⟩;rw [<-ap] at ay aU ah am;have eny:(n:Int)*(y:Int)=(ny:Int):=by rw [ap];simp
   have aK:y=0->ny=0:=fun h=>by rw [ap,h,Nat.mul_zero]
   obtain ⟨s,hs⟩:∃ s,s=cy+ny:=⟨_,rfl⟩;rw [<-hs] at ay ah;obtain ⟨sl,aL⟩:∃ sl,sl=s % 4294967296:=⟨_,rfl⟩;obtain ⟨sh,az⟩:∃ sh,sh=s / 4294967296:=⟨_,rfl⟩;rw [<-az] at ah;have aA:sl<4294967296:=by omega
   obtain ⟨oo,b',D,ho,hb',hD,aM,hm,hd,aV⟩:=nE aT aA hb;have aq:=af (am.out s oo b' hs (by rw [<-aL];exact aM));rw [<-az] at aq
   have ag:m<i+1->sh=0:=fun h=>by
    have h1:=aw (by omega);have h2:=aK h1;omega
   have bh:=af ag;have es:(cy:Int)+(ny:Int)=(s:Int):=by omega
   have esl:IntKind.u32.wrap (s:Int)=(sl:Int):=by rw [IntKind.wrap_u32];omega
   have esh:(s:Int) / 4294967296=(sh:Int):=by omega
   have e5:IntKind.u32.wrap (D:Int)=(oo:Int):=by rw [IntKind.wrap_u32];omega
   have e6:(D:Int) / 9223372036854775808=(b':Int):=by omega
   have bi:(i:Int)<(k:Int):=by omega
   have ai:Hid (Wd (U'.set (o+i) oo)/\(U'.set (o+i) oo).length=U.length/\(∀ j,j<o\/o+(i+1)<=j->(U'.set (o+i) oo).getD j 0=U.getD j 0)/\(m<i+1->sh=0)):=af ⟨HL.out.1.set _ _ ho,by rw [List.length_set];exact HL.out.2.1,fun j hj=>by rw [kw (by omega)];exact HL.out.2.2.1 j (by omega),ag⟩;clear am aM hm hd aH aJ ap aK aw hs aL az ag;rcases aV with ⟨h1,h2⟩ | ⟨h1,D1,h2,h3⟩ | ⟨h1,h2,h3⟩
   ·go_wp2_with (go_at_call 239;(with_reducible refine HX.out.mono ?_);rintro e w2 ⟨rfl,rfl⟩);go_roundg (k - (i+1))
    case measure=>omega
    case rel=>exact ⟨i+1,sh,b',U'.set (o+i) oo,rfl,rfl,by go_num,by omega,Nat.le_refl _,ah,hb',af (iR HR.out _ _),ai,aq,af (HO.out.store _ _)⟩
   ·have e1:=rR h2 (by omega);have bj:D1<18446744073709551616:=by omega
    clear h2;go_wp2_with (go_at_call 239;(with_reducible refine HX.out.mono ?_);rintro e w2 ⟨rfl,rfl⟩);go_roundg (k - (i+1))
    case measure=>omega
    case rel=>exact ⟨i+1,sh,b',U'.set (o+i) oo,rfl,rfl,by go_num,by omega,Nat.le_refl _,ah,hb',af (iR HR.out _ _),ai,aq,af (HO.out.store _ _)⟩
   ·have e1:=rR h3 (by omega);have g1:x<=sl:=by omega
    have g2:sl<=x:=by omega
    have g3:1<=b:=by omega
    clear h1 h2 h3;go_wp2_with (go_at_call 239;(with_reducible refine HX.out.mono ?_);rintro e w2 ⟨rfl,rfl⟩);go_roundg (k - (i+1))
    case measure=>omega
    case rel=>exact ⟨i+1,sh,b',U'.set (o+i) oo,rfl,rfl,by go_num,by omega,Nat.le_refl _,ah,hb',af (iR HR.out _ _),ai,aq,af (HO.out.store _ _)⟩
  ·have aB:i=k:=by omega
   have aj:cy=0:=HL.out.2.2.2 (by have:=HK.out;omega);have hf:=HI.out;rw [aB,aj,Nat.zero_mul,Nat.add_zero,ig (V.take m) k (by rw [aF.out,HK.out];omega)] at hf;have HF:=af hf;have HE:=af aB;clear aB aj hf;go_wp2;go_ret;exact ⟨⟨b,U',rfl,hb,HR.out,HL.out.1,HL.out.2.1,fun j hj=>HL.out.2.2.1 j (by have:=HE.out;omega),HF.out⟩,HO.out⟩
theorem Fi (g gv o m k c cv:Nat) (U V:List Nat) (w:World) (hU:gS w g 70 (U.map mV)) (hV:gS w gv 70 (V.map mV)) (ay:gv≠g) (al:Wd U) (ah:Wd V) (hk:k=m+1) (am:o+k<=U.length) (aJ:m<=V.length) (aK:m<=549755813888) (aL:m<=cv) :
  Calls Tryz.prog 237 #[.slice (some ⟨g,o,none⟩) k c,.slice (some ⟨gv,0,none⟩) m cv] w fun e w'=>(∃ (b:Nat) (U':List Nat),e=.returned (.tuple #[])/\gS w' g 70 (U'.map mV)/\Wd U'/\U'.length=U.length/\(∀ j,j<o\/o+k<=j->U'.getD j 0=U.getD j 0) /\
   nv ((U'.drop o).take k)+b*4294967296^k=nv ((U.drop o).take k)+nv (V.take m))/\iq g w w':=by
 have HU:=af hU;have az:=af am;have aA:=af al;have HK:=af hk;have aM:k<=549755813889:=by omega
 have ag:(V.take m).length=m:=by rw [List.length_take];omega
 have aB:=af ag;have aC:Hid (Wd (V.take m)):=af (ah.take m)
 have aD:Hid (∀ W,iq g w W->∀ i:Nat,Calls Tryz.prog 239 #[.slice (some ⟨gv,0,none⟩) m cv,.int .i64 i] W fun e w'=>e=.returned (.int .u64 (((V.take m).getD i 0:Nat):Int))/\W=w'):=af fun W hW i=>by
  have h:=hW.row hV ay
  have h2:WdsAt W (.slice (some ⟨gv,0,none⟩) m cv) (V.take m):=by
   refine ⟨_,cv,by rw [ag],⟨by omega,fun h=>by cases h⟩,by omega,ah.take m,fun j hj=>⟨gv,0,rfl,?_⟩⟩;rw [ag] at hj;have:=iT h j (by omega);rw [jQ hj,Nat.zero_add];exact this
  exact lK _ _ i W h2
 clear hU am al hk ag hV ah;go_enter Tryz.func237,Tryz.ntmps237;go_wp2;go_loopg [4,8] k (fun kx s4 s8 wr=>∃ (i cy:Nat) (U':List Nat),s4=.int .u64 cy/\s8=.int .i64 i/\i<=k/\k - i<=kx/\cy<=1/\Hid (gS wr g 70 (U'.map mV))/\Hid (Wd U'/\U'.length=U.length/\(∀ j,j<o\/o+i<=j->U'.getD j 0=U.getD j 0))/\Hid (nv ((U'.drop o).take i)+cy*4294967296^i=nv ((U.drop o).take i)+nv ((V.take m).take i))/\Hid (iq g w wr))
 case atStart=>exact ⟨0,0,U,rfl,rfl,Nat.zero_le _,by omega,by omega,HU,af ⟨aA.out,rfl,fun _ _=>rfl⟩,af (by simp [jR]),af (iq.refl _ _)⟩
 case round =>
  obtain ⟨i,cy,U',rfl,rfl,hi,aN,aO,HR,HL,HI,HO⟩:=hrel;by_cases aP:i<k
  ·have ap:o+i<U'.length:=by have h1:=HL.out.2.1;have h2:=az.out;omega
   have f:=HR.out.free (o+i);have aF:=iT HR.out (o+i) ap;have aQ:=HL.out.1.getD (o+i);have aq:U'.getD (o+i) 0=U.getD (o+i) 0:=HL.out.2.2 _ (.inr (Nat.le_refl _));have aR:=aC.out.getD i;have HX:=af (fun W hk=>aD.out W (HO.out.trans (iq.kept hk)) i)
   have ar:Hid (∀ s,s=cy+U'.getD (o+i) 0+(V.take m).getD i 0->nv (((U'.set (o+i) (s % 4294967296)).drop o).take (i+1))+(s / 4294967296)*4294967296^(i+1)=nv ((U.drop o).take (i+1))+nv ((V.take m).take (i+1))):=af fun s hs=>by
    have h:=rU HI.out hs;rw [CC ap,zD U,gX (V.take m),<-aq,<-h,Nat.pow_succ,Nat.mul_comm (4294967296^i)]
   generalize (V.take m).getD i 0=y at *;generalize U'.getD (o+i) 0=x at *;obtain ⟨s,hs⟩:∃ s,s=cy+x+y:=⟨_,rfl⟩;have aS:s<18446744073709551616:=by omega
   obtain ⟨r,hr⟩:∃ r,r=s % 4294967296:=⟨_,rfl⟩;obtain ⟨q,hq⟩:∃ q,q=s / 4294967296:=⟨_,rfl⟩;have aG:r<4294967296:=by omega
   have aH:q<=1:=by omega
   have aw:=af (ar.out s hs);rw [<-hr,<-hq] at aw;have e3:(cy:Int)+((x:Int)+(y:Int))=(s:Int):=by omega
   have e6:(s:Int) / 4294967296=(q:Int):=by omega
   have e5:IntKind.u32.wrap (s:Int)=(r:Int):=by rw [IntKind.wrap_u32];omega
   have aT:(i:Int)<(k:Int):=by omega
   have ai:Hid (Wd (U'.set (o+i) r)/\(U'.set (o+i) r).length=U.length/\(∀ j,j<o\/o+(i+1)<=j->(U'.set (o+i) r).getD j 0=U.getD j 0)):=af ⟨HL.out.1.set _ _ aG,by rw [List.length_set];exact HL.out.2.1,fun j hj=>by rw [kw (by omega)];exact HL.out.2.2 j (by omega)⟩;have aI:=((gO.refl wr).drew).cell aF;clear hs hr hq ar aq;go_wp2;go_region_with ((go_at_call 239;refine (HX.out _ (by first | exact gO.refl _ | exact (gO.refl _).drew)).mono ?_;rintro e w2 ⟨rfl,rfl⟩))
   all_goals
    go_wp2;go_roundg (k - (i+1))
    case measure=>omega
    case rel=>exact ⟨i+1,q,U'.set (o+i) r,rfl,by go_num,by omega,Nat.le_refl _,aH,af (iR (HR.out.kept (gO.refl _).drew) _ _),ai,aw,af ((HO.out.trans (iq.kept (gO.refl _).drew)).store _ _)⟩
  ·have aj:i=k:=by omega
   have hf:=HI.out;rw [aj,ig (V.take m) k (by rw [aB.out,HK.out];omega)] at hf;have HF:=af hf;have HE:=af aj;clear aj hf;go_wp2;go_end0;exact ⟨⟨cy,U',rfl,HR.out,HL.out.1,HL.out.2.1,fun j hj=>HL.out.2.2 j (by have:=HE.out;omega),HF.out⟩,HO.out⟩
theorem tO (l:List Nat) (h:∀ i,l.getD i 0=0):nv l=0:=by
 induction l with
 | nil=>rfl
 | cons x l ih =>
  have h0:=h 0;rw [List.getD_cons_zero] at h0;rw [jO,h0,ih fun i=>by have:=h (i+1);rwa [List.getD_cons_succ] at this]
theorem uO {U:List Nat} {j n:Nat} (h:j<U.length):(U.drop j).take (n+1)=U.getD j 0 :: (U.drop (j+1)).take n:=by
 rw [List.drop_eq_getElem_cons h,List.take_succ_cons];simp [List.getD_eq_getElem?_getD,h]
theorem Cn {U:List Nat} {j m N:Nat} (ag:j<U.length) (hR:nv (U.drop (j+1))<N) (hN:N<4294967296^(m+2)) :
  nv ((U.drop j).take (m+3))=U.getD j 0+4294967296*nv (U.drop (j+1))/\(∀ i,j+(m+3)<=i->U.getD i 0=0):=by
 obtain ⟨h1,h2⟩:=qn (Nat.lt_trans hR hN);refine ⟨by rw [uO ag,jO,h2],fun i hi=>?_⟩;have:=h1 (i - (j+1)) (by omega)
 rwa [kV,show j+1+(i - (j+1))=i by omega] at this
theorem EZ {U:List Nat} {j m:Nat} (hz:∀ i,j+(m+3)<=i->U.getD i 0=0):nv (U.drop j)=nv ((U.drop j).take (m+3)):=by
 by_cases h:m+3<=(U.drop j).length
 ·rw [mu (U.drop j) (m+3) h,tO ((U.drop j).drop (m+3)) (fun i=>by rw [List.drop_drop,kV];exact hz _ (by omega))];omega
 ·rw [List.take_of_length_le (by omega)]
theorem KI {l:List Nat} (hw:Wd l) {m:Nat} (hm:l.length=m+3):((l.getD (m+2) 0*4294967296+l.getD (m+1) 0)*4294967296+l.getD m 0)*4294967296^m<=nv l/\nv l<((l.getD (m+2) 0*4294967296+l.getD (m+1) 0)*4294967296+l.getD m 0+1)*4294967296^m:=by
 have h1:=mu l m (by omega);rw [iG (by omega),iG (by omega),iG (by omega),kB (by omega)] at h1;simp only [Nat.mul_zero,Nat.add_zero] at h1;rw [show m+1+1=m+2 from rfl] at h1;have h2:=kM (hw.take m);rw [List.length_take,Nat.min_eq_left (by omega)] at h2;have e:(l.getD (m+2) 0*4294967296+l.getD (m+1) 0)*4294967296+l.getD m 0=l.getD m 0+4294967296*(l.getD (m+1) 0+4294967296*l.getD (m+2) 0):=by omega
 rw [e];refine ⟨by rw [h1,Nat.mul_comm];omega,?_⟩;rw [Nat.add_mul,Nat.one_mul,Nat.mul_comm _ (4294967296^m)];omega
structure Est (N X m top next a b u2:Nat):Prop where
 top1:2147483648<=top
 top2:top<4294967296
 next2:next<4294967296
 u22:u2<4294967296
 a2:a<4294967296
 b2:b<4294967296
 lo1:top*4294967296^(m+1)<=N
 lo2:(top*4294967296+next)*4294967296^m<=N
 hi2:N<(top*4294967296+next+1)*4294967296^m
 xhi:X<(a*4294967296+b+1)*4294967296^(m+1)
 xlo3:((a*4294967296+b)*4294967296+u2)*4294967296^m<=X
 xhi3:X<((a*4294967296+b)*4294967296+u2+1)*4294967296^m
 xw:X<N*4294967296
theorem Est.make {V S:List Nat} {m X N R u0:Nat} (hV:V.length=m+2) (ah:Wd V) (hN:nv V=N) (hS:S.length=m+3) (ag:Wd S) (hX:nv S=X) (ht:2147483648<=V.getD (m+1) 0) (aj:X=u0+4294967296*R) (hR:R<N) (hu:u0<4294967296) :
  Est N X m (V.getD (m+1) 0) (V.getD m 0) (S.getD (m+2) 0) (S.getD (m+1) 0) (S.getD m 0):=by
 have ai:X<N*4294967296:=by omega
 obtain ⟨_,h1,h2⟩:=ww ah hV;obtain ⟨_,h3,_⟩:=mD ah (m:=m+1) hV;obtain ⟨h4,h5⟩:=KI ag hS;obtain ⟨_,_,h6⟩:=ww ag (m:=m+1) hS;have e1:V.getD m 0+4294967296*V.getD (m+1) 0=V.getD (m+1) 0*4294967296+V.getD m 0:=by omega
 rw [show m+1+1=m+2 from rfl] at h6;have e2:S.getD (m+1) 0+4294967296*S.getD (m+2) 0=S.getD (m+2) 0*4294967296+S.getD (m+1) 0:=by omega
 rw [e1] at h1 h2;rw [e2] at h6;rw [hN] at h1 h2 h3;rw [hX] at h4 h5 h6;exact ⟨ht,ah.getD _,ah.getD _,ag.getD _,ag.getD _,ag.getD _,h3,h1,h2,h6,h4,h5,ai⟩
theorem Est.pos {N X m top next a b u2:Nat} (h:Est N X m top next a b u2):0<N:=by
 have h1:=h.lo1;have h2:=h.top1;have h3:0<4294967296^(m+1):=Nat.pow_pos (by omega);have h4:1*4294967296^(m+1)<=top*4294967296^(m+1):=Nat.mul_le_mul_right _ (by omega);omega
theorem Est.head {N X m top next a b u2:Nat} (h:Est N X m top next a b u2):a<=top:=by
 have h1:a*4294967296^(m+2)<=X:=by
  refine Nat.le_trans ?_ h.xlo3;rw [Nat.pow_succ,Nat.pow_succ,Nat.mul_assoc,Nat.mul_comm (4294967296^m),<-Nat.mul_assoc,<-Nat.mul_assoc];exact Nat.mul_le_mul_right _ (by omega)
 have h2:N<(top+1)*4294967296^(m+1):=by
  refine Nat.lt_of_lt_of_le h.hi2 ?_;rw [Nat.pow_succ,Nat.mul_comm (4294967296^m),<-Nat.mul_assoc];exact Nat.mul_le_mul_right _ (by have:=h.next2;omega)
 have h3:a*4294967296^(m+2)<(top+1)*4294967296^(m+2):=by
  refine Nat.lt_of_le_of_lt h1 (Nat.lt_of_lt_of_le h.xw ?_);rw [Nat.pow_succ 4294967296 (m+1),<-Nat.mul_assoc];exact Nat.mul_le_mul_right _ (Nat.le_of_lt h2)
 have:=Nat.lt_of_mul_lt_mul_right h3;omega
structure ol (N X top head g r:Nat):Prop where
 sum:g*top+r=head
 ge:X / N<=g
theorem ol.start {N X m top next a b u2:Nat} (h:Est N X m top next a b u2) {head:Nat} (hh:head=a*4294967296+b):ol N X top head (head / top) (head % top)/\head % top<4294967296/\head / top<18446744073709551616/\head<18446744073709551616:=by
 have ht:=h.top1;have ag:=h.top2;have h1:=Nat.mod_lt head (show 0<top by omega);have h2:head<18446744073709551616:=by have:=h.a2;have:=h.b2;omega
 refine ⟨⟨by rw [Nat.mul_comm];exact Nat.div_add_mod head top,yy h.lo1 (by rw [hh];exact h.xhi) (by omega)⟩,by omega,Nat.lt_of_le_of_lt (Nat.div_le_self _ _) h2,h2⟩
theorem ol.next {N X m top next a b u2 head g r:Nat} (h:Est N X m top next a b u2) (hh:head=a*4294967296+b) (he:ol N X top head g r) (hg:4294967296<=g\/r*4294967296+u2<g*next):∃ g',g=g'+1/\ol N X top head g' (r+top):=by
 have h1:X / N<g:=by
  rcases Fa he.sum hg with h2 | h2
  ·rw [hh] at h2;exact Dc h.lo2 h.xhi3 h2
  ·have h3:X / N<4294967296:=Nat.div_lt_of_lt_mul h.xw;omega
 have h4:0<g:=Nat.lt_of_le_of_lt (Nat.zero_le _) h1;refine ⟨g - 1,(Nat.sub_add_cancel h4).symm,?_,Nat.le_sub_one_of_lt h1⟩;have h3:=he.sum;clear h1;obtain ⟨g',rfl⟩:∃ g',g=g'+1:=⟨g - 1,by omega⟩;rw [Nat.add_mul,Nat.one_mul] at h3;rw [Nat.add_sub_cancel];omega
theorem ol.good {N X m top next a b u2 head g r:Nat} (h:Est N X m top next a b u2) (hh:head=a*4294967296+b) (he:ol N X top head g r) (hg:(g<4294967296/\g*next<=r*4294967296+u2)\/4294967296<=r):g<4294967296/\X / N<=g/\g<=X / N+1:=by
 have h1:g<4294967296/\g*(top*4294967296+next)<=head*4294967296+u2:=by
  rcases hg with ⟨h1,h2⟩ | h2
  ·exact ⟨h1,yn he.sum h2⟩
  ·exact CW he.sum h2 (by have:=h.head;have:=h.b2;rw [hh,Nat.add_mul];omega) h.next2 (by have:=h.top1;omega)
 refine ⟨h1.1,he.ge,Fl (V2:=top*4294967296+next) (P:=4294967296^m) (head3:=head*4294967296+u2) h.hi2 (by rw [hh];exact h.xlo3) h1.2 ?_ h.pos⟩;refine Nat.le_trans ?_ h.lo2;exact Nat.mul_le_mul_right _ (by have:=h.top1;omega)
theorem rg {x:Nat} (h:x<2^64):x<2^Lib.bitLen x:=by
 rcases Nat.lt_or_ge x (2^Lib.bitLen x) with h1 | h1
 ·exact h1
 ·exfalso
  have h2:=Lib.bitLen_shift _ x h1 h
  have h3:x / 2^Lib.bitLen x≠0:=by
   have:=Nat.div_pos h1 (Nat.two_pow_pos _);omega
  have h4:=Lib.bitLen_half _ h3 (Nat.lt_of_le_of_lt (Nat.div_le_self _ _) h);omega
theorem vm {x:Nat} (h:x<2^64) (h0:x≠0):∃ k,Lib.bitLen x=k+1/\2^k<=x:=by
 have h1:=Lib.bitLen_half x h0 h;refine ⟨Lib.bitLen (x / 2),by omega,?_⟩;rcases Nat.lt_or_ge x (2^Lib.bitLen (x / 2)) with h2 | h2
 ·exfalso
  have h3:Lib.bitLen (x / 2)<=64:=Lib.bitLen_le _ 64 (Nat.le_refl _) (Nat.lt_of_le_of_lt (Nat.div_le_self _ _) h);have:=Lib.bitLen_le x _ h3 h2;omega
 ·exact h2
theorem vM {x:Nat} (h:x<4294967296) (h0:x≠0):∃ s:Nat,(32 - (Lib.bitLen x:Int))=(s:Int)/\s<32/\2147483648<=x*2^s/\x*2^s<4294967296:=by
 have h1:x<2^64:=Nat.lt_of_lt_of_le h (by omega);obtain ⟨k,hk,h2⟩:=vm h1 h0;have h3:Lib.bitLen x<=32:=Lib.bitLen_le x 32 (by omega) (by rw [show (2:Nat)^32=4294967296 by rfl];exact h);have h4:=rg h1;rw [hk] at h3 h4⊢;refine ⟨31 - k,by omega,by omega,?_,?_⟩
 ·have h5:2^k*2^(31 - k)<=x*2^(31 - k):=Nat.mul_le_mul_right _ h2;rw [<-Nat.pow_add,show k+(31 - k)=31 by omega] at h5;rw [show (2147483648:Nat)=2^31 by rfl];exact h5
 ·have h5:x*2^(31 - k)<2^(k+1)*2^(31 - k):=(Nat.mul_lt_mul_right (Nat.two_pow_pos _)).2 h4;rw [<-Nat.pow_add,show k+1+(31 - k)=32 by omega] at h5;rw [show (4294967296:Nat)=2^32 by rfl];exact h5
theorem zU (w:World) (x y:Nat) (hx:x<4294967296) (hy:y<4294967296):WdsAt (w.alloc (.cells #[.int .u32 (x:Int),.int .u32 (y:Int)] 70)) (.slice (some ⟨w.heap.size,0,none⟩) 2 2) [x,y] :=
 ⟨_,2,rfl,⟨by simp,fun h=>by cases h⟩,by simp,Wd.cons hx (Wd.cons hy Wd.nil),fun i hi=>⟨w.heap.size,0,rfl,by
  have:i=0\/i=1:=by simp at hi;omega
  rcases this with rfl | rfl <;> simp⟩⟩
theorem re (w:World) (x:Nat) (hx:x<4294967296):WdsAt (w.alloc (.cells #[.int .u32 (x:Int)] 70)) (.slice (some ⟨w.heap.size,0,none⟩) 1 1) [x] :=
 ⟨_,1,rfl,⟨by simp,fun h=>by cases h⟩,by simp,Wd.cons hx Wd.nil,fun i hi=>⟨w.heap.size,0,rfl,by
  have:i=0:=by simp at hi;omega
  subst this;simp⟩⟩
theorem Cr (n:Nat) (w:World) (hn:n<9223372036854775808):Calls Tryz.prog 207 #[.int .i64 n] w fun e w'=>(∃ v',e=.returned v'/\WdsAt w' v' (nw n))/\gO w w':=by
 by_cases h0:n=0
 ·subst h0;go_enter Tryz.func207,Tryz.ntmps207;go_wp2;go_ret;exact ⟨⟨_,rfl,by rw [jE];exact WdsAt.nil _⟩,gO.refl _⟩
 ·obtain ⟨x,hx⟩:∃ x,x=n % 4294967296:=⟨_,rfl⟩;obtain ⟨y,hy⟩:∃ y,y=n / 4294967296:=⟨_,rfl⟩;have ai:x<4294967296:=by omega
  have aj:y<4294967296:=by omega
  have hv:nv [x,y]=n:=by simp [nv];omega
  have e1:IntKind.u32.wrap (n:Int)=(x:Int):=by rw [IntKind.wrap_u32];omega
  have e2:(n:Int) / 4294967296=(y:Int):=by omega
  have hp:¬ (n:Int)<=0:=by omega
  have HT:Hid (∀ W:World,Calls Tryz.prog 116 #[.slice (some ⟨W.heap.size,0,none⟩) 2 2] (W.alloc (.cells #[.int .u32 (x:Int),.int .u32 (y:Int)] 70)) fun e w'=>(∃ v',e=.returned v'/\WdsAt w' v' (nw n))/\gO (W.alloc (.cells #[.int .u32 (x:Int),.int .u32 (y:Int)] 70)) w'):=af fun W=>by
   have h:=iQ _ _ _ (zU W x y ai aj);rw [hv] at h;exact h
  clear hx hy hv h0;go_enter Tryz.func207,Tryz.ntmps207;go_wp2_with (go_at_call 116;refine (HT.out _).mono ?_;rintro e w2 ⟨⟨v2,rfl,ag⟩,ah⟩;have al:=af ag;have am:=af ah;clear ag ah);go_ret;exact ⟨⟨_,rfl,al.out⟩,((gO.refl _).alloc _).trans am.out⟩
theorem yD (va:Value) (xs:List Nat) (n:Nat) (w:World) (ha:WdsAt w va xs) (hn:n<32) (ag:xs.length<=549755813888) :
  Calls Tryz.prog 235 #[va,.int .i64 n] w fun e w'=>(∃ g L,e=.returned (.slice (some ⟨g,0,none⟩) (xs.length+1) (xs.length+1))/\w.heap.size<=g/\gS w' g 70 (L.map mV)/\L.length=xs.length+1/\Wd L/\nv L=nv xs*2^n)/\gO w w' :=
 (Fs va xs n w ha hn ag).mono fun _ _ h=>⟨let ⟨L,h1,h2,h3,h4,h5⟩:=h.1;⟨w.heap.size,L,h1,Nat.le_refl _,h2,h3,h4,h5⟩,h.2⟩
theorem Iw {V bs:List Nat} {s m:Nat} (hs:s<32) (hl:bs.length=m+2) (hV:V.length=m+3) (hw:Wd V) (ah:Wd bs) (hv:nv V=nv bs*2^s) (h1:2147483648<=bs.getD (m+1) 0*2^s) (h2:bs.getD (m+1) 0*2^s<4294967296) :
  nv (V.take (m+2))=nv bs*2^s/\2147483648<=V.getD (m+1) 0/\nv bs*2^s<4294967296^(m+2):=by
 obtain ⟨_,h3,h4⟩:=mD ah (m:=m+1) hl
 have ag:nv bs*2^s<4294967296^(m+2):=by
  have h5:(bs.getD (m+1) 0+1)*2^s<=4294967296:=by
   have e:(4294967296:Nat)=2^(32 - s)*2^s:=by rw [<-Nat.pow_add,show 32 - s+s=32 by omega]
   rw [e] at h2⊢;exact Nat.mul_le_mul_right _ (Nat.lt_of_mul_lt_mul_right h2)
  have h6:nv bs*2^s<(bs.getD (m+1) 0+1)*4294967296^(m+1)*2^s:=(Nat.mul_lt_mul_right (Nat.two_pow_pos _)).2 h4;have h7:(bs.getD (m+1) 0+1)*4294967296^(m+1)*2^s=(bs.getD (m+1) 0+1)*2^s*4294967296^(m+1):=by rw [Nat.mul_assoc,Nat.mul_comm (4294967296^(m+1)),<-Nat.mul_assoc]
  have h8:(bs.getD (m+1) 0+1)*2^s*4294967296^(m+1)<=4294967296*4294967296^(m+1):=Nat.mul_le_mul_right _ h5;rw [Nat.pow_succ,Nat.mul_comm (4294967296^(m+1))];omega
 have hz:=qn (l:=V) (k:=m+2) (by rw [hv];exact ag);refine ⟨by rw [hz.2,hv],?_,ag⟩;have ai:(V.take (m+2)).length=m+2:=by rw [List.length_take];omega
 obtain ⟨_,h5,h6⟩:=mD (hw.take (m+2)) (m:=m+1) ai;rw [hz.2,hv,jQ (by omega)] at h6
 have h7:bs.getD (m+1) 0*2^s*4294967296^(m+1)<=nv bs*2^s:=by
  rw [Nat.mul_assoc,Nat.mul_comm (2^s),<-Nat.mul_assoc];exact Nat.mul_le_mul_right _ h3
 have h8:bs.getD (m+1) 0*2^s*4294967296^(m+1)<(V.getD (m+1) 0+1)*4294967296^(m+1):=by omega
 have h9:=Nat.lt_of_mul_lt_mul_right h8;omega
theorem Ar {U0:List Nat} {A s l1 m L N:Nat} (hs:s<32) (hA:A<4294967296^l1) (hU:nv U0=A*2^s) (hp:U0.length=l1+1) (hL:L+(m+2)=l1+1) (hN:2147483648*4294967296^(m+1)<=N):nv (U0.drop L)<N:=by
 have h1:=mu U0 L (by omega)
 have h2:4294967296^L*nv (U0.drop L)<4294967296^l1*2^s:=by
  have:A*2^s<4294967296^l1*2^s:=(Nat.mul_lt_mul_right (Nat.two_pow_pos _)).2 hA
  omega
 rw [show l1=L+(m+1) by omega,Nat.pow_add,Nat.mul_assoc] at h2;have h3:=Nat.lt_of_mul_lt_mul_left h2;have h4:2^s<=2^31:=Nat.pow_le_pow_right (by omega) (by omega);have h5:4294967296^(m+1)*2^s<=4294967296^(m+1)*2147483648:=Nat.mul_le_mul_left _ (by rw [show (2147483648:Nat)=2^31 by rfl];exact h4);rw [Nat.mul_comm _ 2147483648] at h5;omega
structure oj (U0 U Q:List Nat) (N L p k:Nat):Prop where
 lu:U.length=p
 wu:Wd U
 lq:Q.length=L
 wq:Wd Q
 eq:nv (U0.drop k)=N*nv (Q.drop k)+nv (U.drop k)
 lt:nv (U.drop k)<N
 same:∀ i,i<k->U.getD i 0=U0.getD i 0
theorem oj.step {U0 U Q:List Nat} {N L p j m:Nat} (h:oj U0 U Q N L p (j+1)) (hp:U0.length=p) (hj:j<L) (aj:j+(m+3)<=p) (hN:N<4294967296^(m+2)) {g:Nat} (hg:g<4294967296) {X:Nat} (hX:X=nv ((U.drop j).take (m+3))) (ag:g=X / N)
  {U2:List Nat} (hl:U2.length=p) (hw:Wd U2) (hs:∀ i,i<j\/j+(m+3)<=i->U2.getD i 0=U.getD i 0) (hv:nv ((U2.drop j).take (m+3))=X % N):oj U0 U2 (Q.set j g) N L p j:=by
 obtain ⟨h1,h2⟩:=Cn (U:=U) (j:=j) (m:=m) (by have:=h.lu;omega) h.lt hN;have ah:∀ i,j+(m+3)<=i->U2.getD i 0=0:=fun i hi=>by rw [hs i (.inr hi)];exact h2 i hi
 have e2:=EZ (U:=U2) (j:=j) (m:=m) ah;rw [hv] at e2;have ai:0<N:=Nat.lt_of_le_of_lt (Nat.zero_le _) h.lt;refine ⟨hl,hw,by rw [List.length_set];exact h.lq,h.wq.set _ _ hg,?_,by rw [e2];exact Nat.mod_lt _ ai,fun i hi=>by rw [hs i (.inl hi)];exact h.same i (by omega)⟩;rw [e2,iG (l:=U0) (by omega),iG (l:=Q.set j g) (by rw [List.length_set];have:=h.lq;omega),lO (by have:=h.lq;omega),List.drop_set_of_lt (by omega),ag];refine vN h.eq X ?_;rw [hX,h1,h.same j (by omega)]
theorem Fj {S1 S2 b2 M R N:Nat} (h:S2+b2*M=S1+N) (h1:S1+N=R+M) (ag:S2<M) (hR:R<M):S2=R:=by
 rcases Nat.lt_or_ge b2 2 with h2 | h2
 ·rcases (by omega:b2=0\/b2=1) with rfl | rfl <;> omega
 ·have:2*M<=b2*M:=Nat.mul_le_mul_right _ h2
  omega
theorem Bu {U:List Nat} (h:Wd U) (j k:Nat):nv ((U.drop j).take k)<4294967296^k:=by
 refine Nat.lt_of_lt_of_le (kM ((h.drop j).take k)) (Nat.pow_le_pow_right (by omega) ?_);rw [List.length_take];omega
theorem oj.est {U0 U Q V:List Nat} {N L p j m:Nat} (h:oj U0 U Q N L p (j+1)) (ah:j+(m+3)<=p) (hN:N<4294967296^(m+2)) (ag:Wd V) (ai:m+2<=V.length) (hv:nv (V.take (m+2))=N) (ht:2147483648<=V.getD (m+1) 0) :
  Est N (nv ((U.drop j).take (m+3))) m (V.getD (m+1) 0) (V.getD m 0) (U.getD (j+(m+2)) 0) (U.getD (j+(m+1)) 0) (U.getD (j+m) 0):=by
 have aj:=h.lu;obtain ⟨h1,_⟩:=Cn (U:=U) (j:=j) (m:=m) (by omega) h.lt hN;have h2:=Est.make (V:=V.take (m+2)) (S:=(U.drop j).take (m+3)) (m:=m) (by rw [List.length_take];omega) (ag.take _) hv (by rw [List.length_take,List.length_drop];omega) ((h.wu.drop j).take _) rfl (by rw [jQ (by omega)];exact ht) h1 h.lt (h.wu.getD j);rw [jQ (by omega),jQ (by omega),jQ (by omega),jQ (by omega),jQ (by omega),kV,kV,kV] at h2;exact h2
theorem oj.start {U0 V:List Nat} {A N L p l1 m s:Nat} (hs:s<32) (hA:A<4294967296^l1) (hU:nv U0=A*2^s) (hp:U0.length=l1+1) (ah:p=l1+1) (hL:L+(m+2)=l1+1) (hw:Wd U0) (ag:Wd V) (ai:m+2<=V.length) (hv:nv (V.take (m+2))=N) (ht:2147483648<=V.getD (m+1) 0):oj U0 U0 (List.replicate L 0) N L p L:=by
 refine ⟨by omega,hw,by simp,Wd.zeros _,by rw [kB (l:=List.replicate L 0) (by simp)];simp,Ar hs hA hU hp hL ?_,fun _ _=>rfl⟩;obtain ⟨_,h2,_⟩:=mD (ag.take (m+2)) (m:=m+1) (by rw [List.length_take];omega);rw [jQ (by omega),hv] at h2;exact Nat.le_trans (Nat.mul_le_mul_right _ ht) h2
theorem oj.done {U0 U Q:List Nat} {A B N L p s:Nat} (h:oj U0 U Q N L p 0) (hU:nv U0=A*2^s) (hN:N=B*2^s):A / B=nv Q/\nv U / 2^s=A % B:=by
 have h1:=h.eq;have h2:=h.lt;simp only [List.drop_zero] at h1 h2;rw [hU,hN] at h1;rw [hN] at h2;exact ws h1 h2
theorem Dz (va vb:Value) (xs ys:List Nat) (m:Nat) (w:World) (ha:WdsAt w va xs) (hb:WdsAt w vb ys) (cU:xs.length<=274877906944) (hm:(nw (nv ys)).length=m+2) (bq:nv ys<=nv xs) :
  Calls Tryz.prog 177 #[va,vb] w fun e w'=>(∃ v1 v2,e=.returned (.tuple #[v1,v2,.nilIface])/\WdsAt w' v1 (nw (nv xs / nv ys))/\WdsAt w' v2 (nw (nv xs % nv ys)))/\gO w w':=by
 have cV:=af (fun W (hk:gO w W)=>iQ va xs W (ha.kept hk));have cW:=af (fun W (hk:gO w W)=>iQ vb ys W (hb.kept hk));obtain ⟨a0,c0,rfl⟩:=ha.shape;obtain ⟨a1,c1,rfl⟩:=hb.shape;obtain ⟨l1,br⟩:∃ l1,l1=(nw (nv xs)).length:=⟨_,rfl⟩
 have eD:l1<=274877906944:=by
  rw [br];exact Nat.le_trans (iw.2 (kM ha.wd)) cU
 have bP:m+2<=l1:=by
  rcases Nat.lt_or_ge l1 (m+2) with h | h
  ·have:=rD (m:=nv xs) (n:=nv ys) (by omega);omega
  ·exact h
 obtain ⟨A,hA⟩:∃ A,A=nv xs:=⟨_,rfl⟩;obtain ⟨B,hB⟩:∃ B,B=nv ys:=⟨_,rfl⟩;rw [<-hA] at cV br bq⊢;rw [<-hB] at cW hm bq⊢;obtain ⟨l2,cX⟩:∃ l2,l2=m+2:=⟨_,rfl⟩;obtain ⟨m1,bQ⟩:∃ m1,m1=m+1:=⟨_,rfl⟩;obtain ⟨L,hL⟩:∃ L,L+(m+2)=l1+1:=⟨l1+1 - (m+2),by omega⟩;obtain ⟨x,hx⟩:∃ x,x=(nw B).getD m1 0:=⟨_,rfl⟩;have eE:x<4294967296:=by rw [hx];exact (lC B).getD _
 have cZ:x≠0:=by
  have h:=FL B;have eF:nw B≠[]:=fun e=>by rw [e] at hm;simp at hm
  have h2:=h eF;rw [List.getLast_eq_getElem] at h2;rw [hx,List.getD_eq_getElem?_getD,bQ,show m+1=(nw B).length - 1 by omega,List.getElem?_eq_getElem (by omega)];exact h2
 obtain ⟨s,hs,ai,aT,aU⟩:=vM eE cZ
 have eG:Hid (∀ W:World,Calls Tryz.prog 234 #[.int .u32 (x:Int)] W fun e w'=>e=.returned (.int .i64 (s:Int))/\w'=W):=af fun W=>by
  have h:=Tryz.bits_LeadingZeros32 (x:Int) W (by omega) (by omega);simp only [Int.toNat_natCast,hs] at h;exact h
 have eH:¬ kv A B<0:=by
  rcases Nat.lt_or_ge B A with h | h
  ·rw [lY h];omega
  ·rw [mK (by omega)];omega
 obtain ⟨cm,aG⟩:∃ cm,cm=kv A B:=⟨_,rfl⟩;rw [<-aG] at eH;have eI:=af aG;have HM:=af hm;have aH:=af br;have HX:=af hx;have c_:=af (And.intro aT aU);have fo:=af bq;have da:=af hL;have aj:=af cX;have aI:=af bQ;have e21:(l2:Int) - 1=(m1:Int):=by omega
 have e20:(l2:Int) - 2=(m:Int):=by omega
 have eJ:m1<l2:=by omega
 have eK:m<l2:=by omega
 have db:((l2:Int) == 0)=false:=by simp;omega
 have dd:((l2:Int) == 1)=false:=by simp;omega
 obtain ⟨p1,bt⟩:∃ p1,p1=l1+1:=⟨_,rfl⟩;obtain ⟨p2,bw⟩:∃ p2,p2=l2+1:=⟨_,rfl⟩;have eL:(p1:Int) - (l2:Int)=(L:Int):=by omega
 have eM:p1<=274877906945:=by omega
 have fp:L<=274877906945:=by omega
 have eN:p2<=274877906945:=by omega
 have eO:l2<=274877906944:=by omega
 have bR:l2<=p2:=by omega
 have aV:=af bt;have aB:=af bw;generalize aQ:xs.length=n0 at *;generalize aC:ys.length=n1 at *;clear aQ aC ha hb br bP hA hB cX bQ hL hx cZ hs aT aU aG hm bq cU bt bw;go_enter Tryz.func177,Tryz.ntmps177;go_wp2_with fail;refine (cV.out _ (gO.refl _)).mono ?_;rintro e w1 ⟨⟨v1,rfl,de⟩,bS⟩;go_wp2_with fail;refine (cW.out _ bS).mono ?_;rintro e w2 ⟨⟨v2,rfl,bz⟩,bT⟩;have ar:=de.kept bT;have bA:=af (bS.trans bT);obtain ⟨a2,c2,rfl⟩:=ar.shape;obtain ⟨a3,c3,rfl⟩:=bz.shape;rw [HM.out,<-aj.out] at bz⊢;rw [<-aH.out] at ar⊢;have H1:=af ar;have H2:=af bz;clear de ar bz bS bT;obtain ⟨b3,o3,rfl,bU⟩:=H2.out.get m1 (by rw [HM.out,aI.out];omega);rw [<-HX.out] at bU;go_wp2_with fail;refine (lB _ _ _ _ _ H1.out H2.out).mono ?_;rintro e w3 ⟨rfl,bV⟩;rw [gW,gW,<-eI.out];have bW:=bV.cell bU;have aR:=af bV;clear bU bV;go_wp2_with fail;refine (eG.out _).mono ?_;rintro e w4 ⟨rfl,rfl⟩;go_wp2_with fail;refine (yD _ _ s _ (H2.out.kept aR.out) ai (by rw [HM.out];omega)).mono ?_;rintro e w5 ⟨⟨gv,V,rfl,df,bX,dg,dh,di⟩,bY⟩;rw [HM.out,<-aj.out,<-aB.out];go_wp2_with fail;refine (yD _ _ s _ ((H1.out.kept aR.out).kept bY) ai (by rw [<-aH.out];omega)).mono ?_;rintro e w6 ⟨⟨gu,U0,rfl,dj,dl,dm,dp,dq⟩,bZ⟩;rw [<-aH.out,<-aV.out];have ag:=af (Nat.lt_of_lt_of_le bX.lt dj)
 have eP:=af df;have aD:=af (bX.kept bZ);have ap:=af dl;have b_:=af (bY.trans bZ);have HV:=af (And.intro dg (And.intro dh di));have HU:=af (And.intro dm (And.intro dp dq));clear df dj bX dl bY bZ dg dh di dm dp dq;obtain ⟨N,hN⟩:∃ N,N=B*2^s:=⟨_,rfl⟩;have HN:=af hN;clear hN
 have al:Hid (nv (V.take (m+2))=N/\2147483648<=V.getD (m+1) 0/\N<4294967296^(m+2)):=af (by
  have h:=Iw (bs:=nw B) (V:=V) (m:=m) ai HM.out (by rw [HV.out.1,HM.out]) HV.out.2.1 (lC B) HV.out.2.2 (by rw [<-aI.out,<-HX.out];exact c_.out.1) (by rw [<-aI.out,<-HX.out];exact c_.out.2);rw [gW,<-HN.out] at h;exact h)
 have aW:m1<V.length:=by rw [HV.out.1,HM.out,aI.out];omega
 have dr:=iT aD.out m1 aW;have dt:=iT aD.out m (by have:=aI.out;omega);have eQ:=HV.out.2.1.getD m1;have eR:=HV.out.2.1.getD m;obtain ⟨top,aw⟩:∃ top,top=V.getD m1 0:=⟨_,rfl⟩;obtain ⟨nxt,aJ⟩:∃ nxt,nxt=V.getD m 0:=⟨_,rfl⟩;rw [<-aw] at dr eQ;rw [<-aJ] at dt eR;have fq:2147483648<=top:=by rw [aw,aI.out];exact al.out.2.1
 have cd:=af aw;have ci:=af aJ;clear aw aJ aW;go_wp2_with fail;go_quiet (fail);go_wp2_with (refine kg 27 70 (.int .u32 0) 4 kf Tryz.underlying27 rfl rfl _ _ rfl L rfl rfl (by omega) (by unfold maxLen;omega) ?_;intro w7 du dv);have dw:Hid (gS w7 w6.heap.size 70 ((List.replicate L 0).map mV)):=af (ky du);have bB:Hid (gO w6 w7):=af (((gO.refl w6).drewN _).trans dv);clear du dv;have dx:Hid (gO w w7):=af (((bA.out.trans aR.out).trans b_.out).trans bB.out)
 have dy:w.heap.size<=gu:=by
  have h2:=(bA.out.trans aR.out).size;have h3:=eP.out;have h4:=ag.out;omega
 have dz:w.heap.size<=w6.heap.size:=((bA.out.trans aR.out).trans b_.out).size;have aX:gv≠gu:=by have:=ag.out;omega
 have aY:gu≠w6.heap.size:=by have:=ap.out.lt;omega
 have aZ:gv≠w6.heap.size:=by have:=aD.out.lt;omega
 have dA:=af dy;have dB:=af dz;have ag:=af aX;have ay:=af aY;have a_:=af aZ;have dC:Hid (oj U0 U0 (List.replicate L 0) N L p1 L):=af (oj.start ai (A:=A) (l1:=l1) (m:=m) (V:=V) (s:=s) (by rw [aH.out];exact iw.1 (Nat.le_refl _)) (by have:=HU.out.2.2;rwa [gW] at this) (by rw [HU.out.1,aH.out]) aV.out da.out HU.out.2.1 HV.out.2.1 (by rw [HV.out.1,HM.out];omega) al.out.1 al.out.2.1);have bd:=af (ap.out.kept bB.out);have bf:=af (aD.out.kept bB.out);clear bW dr dt dy dz aX aY aZ ap aD;generalize w6.heap.size=gq at *;go_loopg [14] L (fun kx s14 wr=>∃ (k:Nat) (U Q:List Nat),s14=.int .i64 ((k:Int) - 1)/\k<=L/\k<=kx/\Hid (gS wr gu 70 (U.map mV))/\Hid (gS wr gv 70 (V.map mV))/\Hid (gS wr gq 70 (Q.map mV))/\Hid (oj U0 U Q N L p1 k)/\Hid (gO w wr))
 case atStart=>exact ⟨L,U0,List.replicate L 0,rfl,Nat.le_refl _,Nat.le_refl _,bd,bf,dw,dC,dx⟩
 case round =>
  clear bd bf dw dC dx bB b_ aR bA;obtain ⟨wo,rfl⟩:∃ wo:World,wo=wr:=⟨_,rfl⟩;obtain ⟨k,U,Q,rfl,hk,ft,ap,aD,cj,HD,HK⟩:=hrel;by_cases dD:k=0
  ·subst dD;have dE:=HD.out.done (A:=A) (B:=B) (s:=s) (by have:=HU.out.2.2;rwa [gW] at this) HN.out;have dF:=af dE
   have eS:Hid (WdsAt wo (.slice (some ⟨gq,0,none⟩) L L) Q):=af (by
    have h:=l' cj.out (c:=L) (by rw [HD.out.lq];exact Nat.le_refl _) (by rw [HD.out.lq];omega) HD.out.wq;rw [HD.out.lq] at h;exact h)
   have eT:Hid (WdsAt wo (.slice (some ⟨gu,0,none⟩) p1 p1) U):=af (by
    have h:=l' ap.out (c:=p1) (by rw [HD.out.lu];exact Nat.le_refl _) (by rw [HD.out.lu];omega) HD.out.wu;rw [HD.out.lu] at h;exact h)
   clear dE;go_wp2_with fail;refine (iQ _ _ _ eS.out).mono ?_;rintro e w8 ⟨⟨v8,rfl,aF⟩,ck⟩;go_wp2_with fail;refine (DV _ _ s _ (eT.out.kept ck) ai).mono ?_;rintro e w9 ⟨⟨v9,L9,rfl,dG,dH⟩,cn⟩;go_wp2_with fail;refine (iQ _ _ _ dG).mono ?_;rintro e w10 ⟨⟨v10,rfl,aK⟩,aL⟩;have H8:=af ((aF.kept cn).kept aL);rw [dH,dF.out.2] at aK;have dI:=af aK;have cq:=af ((ck.trans cn).trans aL);clear aF dG dH aK ck cn aL;obtain ⟨a8,c8,rfl⟩:=H8.out.shape;obtain ⟨a10,c10,rfl⟩:=dI.out.shape;go_wp2;go_ret3;exact ⟨⟨_,_,rfl,by rw [dF.out.1];exact H8.out,dI.out⟩,HK.out.trans cq.out⟩
  ·obtain ⟨j,rfl⟩:∃ j,k=j+1:=⟨k - 1,by omega⟩;have eU:=da.out;have dJ:=aj.out;have dK:=aI.out;have bt:=aV.out;have bw:=aB.out;obtain ⟨i2,dL⟩:∃ i2,i2=j+l2:=⟨_,rfl⟩;obtain ⟨i1,dM⟩:∃ i1,i1=j+m1:=⟨_,rfl⟩;obtain ⟨i0,dN⟩:∃ i0,i0=j+m:=⟨_,rfl⟩;obtain ⟨i3,eV⟩:∃ i3,i3=j+p2:=⟨_,rfl⟩;have cr:j+(m+3)<=p1:=by omega
   have hE:=HD.out.est cr al.out.2.2 HV.out.2.1 (by rw [HV.out.1,HM.out];omega) al.out.1 al.out.2.1;have eW:=iT ap.out i2 (by rw [HD.out.lu];omega);have eX:=iT ap.out i1 (by rw [HD.out.lu];omega);have dO:=iT ap.out i0 (by rw [HD.out.lu];omega);rw [<-dJ,<-dK,<-dL,<-dM,<-dN,<-cd.out,<-ci.out] at hE;obtain ⟨X,hX⟩:∃ X,X=nv ((U.drop j).take (m+3)):=⟨_,rfl⟩;rw [<-hX] at hE;generalize U.getD i2 0=a at *;generalize U.getD i1 0=b at *;generalize U.getD i0 0=u2 at *;have dP:=hE.a2;have dQ:=hE.b2;have ct:=hE.u22;have HE:=af hE;have cu:=af hX;obtain ⟨hd,bC⟩:∃ hd,hd=a*4294967296+b:=⟨_,rfl⟩;have eor:=pd a b dP dQ;rw [<-bC] at eor;obtain ⟨aM,aN,aO,cw⟩:=ol.start hE bC;obtain ⟨g0,aQ⟩:∃ g0,g0=hd / top:=⟨_,rfl⟩;obtain ⟨r0,bD⟩:∃ r0,r0=hd % top:=⟨_,rfl⟩;rw [<-aQ,<-bD] at aM;rw [<-bD] at aN;rw [<-aQ] at aO;have eg0:(hd:Int) / (top:Int)=(g0:Int):=by rw [aQ];simp
   have er0:(hd:Int) % (top:Int)=(r0:Int):=by rw [bD];simp
   have dR:=af aM;have cz:=af bC;have ej:((j+1:Nat):Int) - 1=(j:Int):=by omega
   have ei2:(j:Int)+(l2:Int)=(i2:Int):=by omega
   have ei1:(i2:Int) - 1=(i1:Int):=by omega
   have ei0:(i2:Int) - 2=(i0:Int):=by omega
   have ei3:(i2:Int)+1=(i3:Int):=by omega
   have e3j:i3 - j=p2:=by omega
   have fu:i3<=p1:=by omega
   have bR:i2<p1:=by omega
   have eY:i1<p1:=by omega
   have eZ:i0<p1:=by omega
   have e_:j<=i3:=by omega
   have fw:(j:Int)<(L:Int):=by omega
   have aP:j<L:=by omega
   have fx:(0:Int)<=(j:Int):=by omega
   have dT:((top:Int) == 0)=false:=by simp;omega
   have bh:=af cr;rw [ej];clear hE hX bC aQ bD aM ej eU dJ dK bt bw dL dM dN eV cr dD;go_wp2_with fail;go_quiet (fail)
   rename Nat=>nq1
   go_wp2_with fail;go_quiet (fail);go_upto_block 2 with fail
   obtain ⟨wd,bE⟩:∃ wd:World,gO wo wd/\wd=(wo.drewN nq1).drewN nq:=⟨_,((gO.refl wo).drewN _).drewN _,rfl⟩;rw [<-bE.2];have bF:=af bE.1;have cC:=bE.1.cell dO;clear bE eW eX dO eg0 eor dP dQ;go_cut [16] (fun v16 wx=>∃ g:Nat,v16=.int .u64 g/\g<4294967296/\Hid (X / N<=g/\g<=X / N+1)/\Hid (gO wo wx))
   case first =>
    go_wp2_with fail;go_loopg [16,17] g0 (fun kx s16 s17 wr=>∃ (g r:Nat),s16=.int .u64 g/\s17=.int .u64 r/\g<=kx/\g<18446744073709551616/\r<4294967296/\Hid (ol N X top hd g r)/\wd=wr)
    case atStart=>exact ⟨g0,r0,rfl,by rw [er0],Nat.le_refl _,aO,aN,dR,rfl⟩
    case round =>
     obtain ⟨g,r,rfl,rfl,fy,cD,aS,dU,rfl⟩:=hrel;obtain ⟨r2,bG⟩:∃ r2,r2=r+top:=⟨_,rfl⟩;obtain ⟨rs,aq⟩:∃ rs,rs=r*4294967296+u2:=⟨_,rfl⟩;have er2:(r:Int)+(top:Int)=(r2:Int):=by omega
     have fb:r2<8589934592:=by omega
     by_cases hc:4294967296<=g\/rs<g*nxt
     ·obtain ⟨g',hg',bi⟩:=ol.next HE.out cz.out dU.out (by rw [<-aq];exact hc);rw [<-bG] at bi;have dV:=af bi;have eg:(g:Int) - 1=(g':Int):=by omega
      have az:g'<18446744073709551616:=by omega
      have fz:g'<g:=by omega
      have aC:(1:Int)<=(g:Int):=by omega
      have dW:g=g'+1:=hg';have fA:=af dW;clear dW;by_cases dX:4294967296<=r2
      ·have bj:=af (ol.good HE.out cz.out bi (.inr dX));have bk:g'<4294967296:=bj.out.1;have fd:(4294967296:Int)<=(r2:Int):=by omega
       clear bi hg' bG;by_cases hc1:4294967296<=g
       ·have ah:(4294967296:Int)<=(g:Int):=by omega
        clear hc aq;go_wp2_with fail;go_meet;exact ⟨g',rfl,bk,af bj.out.2,bF⟩
       ·have ah:(g:Int)<4294967296:=by omega
        have hc2:=hc.resolve_left hc1;obtain ⟨gn,am⟩:∃ gn,gn=g*nxt:=⟨_,rfl⟩;have egn:(g:Int)*(nxt:Int)=(gn:Int):=by rw [am];simp
        have aA:gn<18446744073709551616:=by
         have:g*nxt<=4294967295*4294967295:=Nat.mul_le_mul (by omega) (by omega)
         omega
        rw [<-am] at hc2;have bH:decide (rs<gn)=true:=by simpa using hc2
        have bI:decide ((4294967296:Int)<=(g:Int))=false:=by simp;omega
        have eors:=pd r u2 aS ct;rw [<-aq] at eors;have hc1'':g<4294967296:=by omega
        clear hc aq am hc1 hc2;go_upto_block 3 with fail
        clear egn aA bI bH eors hc1'' ah;go_wp2_with fail;go_meet;exact ⟨g',rfl,bk,af bj.out.2,bF⟩
      ·have fC:decide ((4294967296:Int)<=(r2:Int))=false:=by simp;omega
       have bl:r2<4294967296:=by omega
       clear bi hg' bG dX;by_cases hc1:4294967296<=g
       ·have ah:(4294967296:Int)<=(g:Int):=by omega
        clear hc aq;go_wp2_with fail;go_roundg g'
        case measure=>omega
        case rel=>exact ⟨g',r2,rfl,rfl,Nat.le_refl _,az,bl,dV,rfl⟩
       ·have ah:(g:Int)<4294967296:=by omega
        have hc2:=hc.resolve_left hc1;obtain ⟨gn,am⟩:∃ gn,gn=g*nxt:=⟨_,rfl⟩;have egn:(g:Int)*(nxt:Int)=(gn:Int):=by rw [am];simp
        have aA:gn<18446744073709551616:=by
         have:g*nxt<=4294967295*4294967295:=Nat.mul_le_mul (by omega) (by omega)
         omega
        rw [<-am] at hc2;have bH:decide (rs<gn)=true:=by simpa using hc2
        have bI:decide ((4294967296:Int)<=(g:Int))=false:=by simp;omega
        have eors:=pd r u2 aS ct;rw [<-aq] at eors;have hc1'':g<4294967296:=by omega
        clear hc aq am hc1 hc2;go_upto_block 3 with fail
        clear egn aA bI bH eors hc1'' ah;go_wp2_with fail;go_roundg g'
        case measure=>omega
        case rel=>exact ⟨g',r2,rfl,rfl,Nat.le_refl _,az,bl,dV,rfl⟩
     ·have hc1:g<4294967296:=by omega
      have ah:(g:Int)<4294967296:=by omega
      have hc2:g*nxt<=rs:=by omega
      have bj:=af (ol.good HE.out cz.out dU.out (.inl ⟨hc1,by rw [<-aq];exact hc2⟩));obtain ⟨gn,am⟩:∃ gn,gn=g*nxt:=⟨_,rfl⟩;have egn:(g:Int)*(nxt:Int)=(gn:Int):=by rw [am];simp
      have aA:gn<18446744073709551616:=by
       have:g*nxt<=4294967295*4294967295:=Nat.mul_le_mul (by omega) (by omega)
       omega
      rw [<-am] at hc2;have bH:decide (rs<gn)=false:=by simp;omega
      have bI:decide ((4294967296:Int)<=(g:Int))=false:=by simp;omega
      have eors:=pd r u2 aS ct;rw [<-aq] at eors;clear hc aq am bG;go_wp2_with fail;go_meet;exact ⟨g,rfl,hc1,af bj.out.2,bF⟩
   case rest =>
    obtain ⟨g,rfl,cD,HG,bJ⟩:=hcut;have cE:=af (ap.out.kept bJ.out);have bo:=af (aD.out.kept bJ.out);have cF:=af (cj.out.kept bJ.out);clear cC bF dR aN aO cw ap aD cj;go_wp2_with fail;refine (GN gu gv j l2 p2 (p1 - j) p2 g U V wc cE.out bo.out ag.out HD.out.wu HV.out.2.1 aB.out (by rw [HD.out.lu];have:=bh.out;have:=aj.out;have:=aB.out;omega) (by rw [HV.out.1,HM.out,aj.out];omega) (by omega) (by omega) cD (by have:=bh.out;have:=aj.out;have:=aB.out;omega)).mono ?_;rintro e w8 ⟨⟨b8,U8,rfl,cG,dY,cH,dZ,cI,cJ⟩,bK⟩;have d_:p2=m+3:=by rw [aB.out,aj.out]
    have bL:=af d_;rw [bL.out,aj.out,al.out.1,<-cu.out] at cJ;rw [bL.out] at cI;have cK:N<4294967296^(m+3):=Nat.lt_trans al.out.2.2 (Nat.pow_lt_pow_right (by omega) (by omega));have fe:=af cK;have eh:=CS HE.out.pos cJ (Bu cH j (m+3)) (Nat.le_of_lt cK) cG HG.out.1 HG.out.2;have ek:=af eh;have em:=af dY;have bp:=af (And.intro cH dZ);have er:=af cI;have cL:=af (bK.row bo.out ag.out);have bM:=af (bK.row cF.out (fun h=>ay.out h.symm));have eA:=af (bK.toKept (HK.out.trans bJ.out) dA.out);clear dY cH dZ cI cJ bK d_ cK eh;have bN:j<Q.length:=by rw [HD.out.lq];exact aP
    rcases (by omega:b8=0\/b8=1) with rfl | rfl
    ·obtain ⟨aC,aF⟩:=ek.out.1 rfl;have cM:=af (HD.out.step (by rw [HU.out.1,aV.out,aH.out]) aP bh.out al.out.2.2 cD cu.out aC (by rw [bp.out.2];exact HD.out.lu) bp.out.1 er.out aF);have f:=bM.out.free j;have ff:=iT bM.out j bN;have e5:IntKind.u32.wrap (g:Int)=(g:Int):=by rw [IntKind.wrap_u32];omega
     clear aC aF cG bN;go_wp2;go_roundg j
     case measure=>omega
     case rel=>exact ⟨j,U8,Q.set j g,rfl,by omega,Nat.le_refl _,af (((iq.refl gq w8).store j _).row em.out ay.out),af (((iq.refl gq w8).store j _).row cL.out a_.out),af (iR bM.out j g),cM,af (eA.out.store dB.out j _)⟩
    ·obtain ⟨aC,aF⟩:=ek.out.2 rfl;obtain ⟨g1,cN⟩:∃ g1,g1=X / N:=⟨_,rfl⟩;rw [<-cN] at aC;have az:g1<4294967296:=by omega
     have eg1:(g:Int) - 1=(g1:Int):=by omega
     have fg:(1:Int)<=(g:Int):=by omega
     have fh:=af cN;have fi:=af aF;clear aC cN aF cG;go_wp2_with fail;refine (Fi gu gv j l2 p2 (p1 - j) p2 U8 V w8 em.out cL.out ag.out bp.out.1 HV.out.2.1 aB.out (by rw [bp.out.2,HD.out.lu];have:=bh.out;have:=aj.out;have:=aB.out;omega) (by rw [HV.out.1,HM.out,aj.out];omega) (by omega) (by omega)).mono ?_;rintro e w9 ⟨⟨b9,U9,rfl,aS,cO,eB,cP,cQ⟩,bO⟩;rw [bL.out,aj.out,al.out.1] at cQ;rw [bL.out] at cP;have eC:=Fj cQ fi.out (Bu cO j (m+3)) (Nat.lt_trans (Nat.mod_lt _ HE.out.pos) fe.out);have cM:=af (HD.out.step (by rw [HU.out.1,aV.out,aH.out]) aP bh.out al.out.2.2 az cu.out fh.out (by rw [eB,bp.out.2];exact HD.out.lu) cO (fun i hi=>(cP i hi).trans (er.out i hi)) eC);have fj:=af aS;have cR:=af (bO.row cL.out ag.out);have cS:=af (bO.row bM.out (fun h=>ay.out h.symm));have fm:=af (bO.toKept eA.out dA.out);have f:=cS.out.free j;have ff:=iT cS.out j bN;have e5:IntKind.u32.wrap (g1:Int)=(g1:Int):=by rw [IntKind.wrap_u32];omega
     clear aS cO eB cP cQ bO eC bN;go_wp2;go_roundg j
     case measure=>omega
     case rel=>exact ⟨j,U9,Q.set j g1,rfl,by omega,Nat.le_refl _,af (((iq.refl gq w9).store j _).row fj.out ay.out),af (((iq.refl gq w9).store j _).row cR.out a_.out),af (iR cS.out j g1),cM,af (fm.out.store dB.out j _)⟩
theorem jY {xs:List Nat} (h:Wd xs):(nw (nv xs)).length<=xs.length:=iw.2 (kM h)
theorem Dy (va vb:Value) (xs ys:List Nat) (w:World) (ha:WdsAt w va xs) (hb:WdsAt w vb ys) (h0:nv ys≠0) (ag:nv xs<nv ys) :
  Calls Tryz.prog 177 #[va,vb] w fun e w'=>(∃ v1 v2,e=.returned (.tuple #[v1,v2,.nilIface])/\WdsAt w' v1 (nw (nv xs / nv ys))/\WdsAt w' v2 (nw (nv xs % nv ys)))/\gO w w':=by
 have aw:=af (fun W (hk:gO w W)=>iQ va xs W (ha.kept hk));have ay:=af (fun W (hk:gO w W)=>iQ vb ys W (hb.kept hk));have az:Hid ((nw (nv ys)).length≠0):=af fun h=>h0 (kl.1 (List.eq_nil_of_length_eq_zero h))
 obtain ⟨a0,c0,rfl⟩:=ha.shape;obtain ⟨a1,c1,rfl⟩:=hb.shape;have HQ:Hid (nv xs / nv ys=0/\nv xs % nv ys=nv xs):=af ⟨Nat.div_eq_of_lt ag,Nat.mod_eq_of_lt ag⟩;have HC:Hid (kv (nv xs) (nv ys)=-1):=af (mL ag);generalize nv xs=A at *;generalize nv ys=B at *;generalize xs.length=n0 at *;generalize ys.length=n1 at *;clear ha hb h0 ag;go_enter Tryz.func177,Tryz.ntmps177;go_wp2_with fail;refine (aw.out _ (gO.refl _)).mono ?_;rintro e w1 ⟨⟨v1,rfl,am⟩,ah⟩;go_wp2_with fail;refine (ay.out _ ah).mono ?_;rintro e w2 ⟨⟨v2,rfl,ap⟩,ai⟩;have H1:=af (am.kept ai);have H2:=af ap;have aA:=af (ah.trans ai);clear am ap ah ai;obtain ⟨a2,c2,rfl⟩:=H1.out.shape;obtain ⟨a3,c3,rfl⟩:=H2.out.shape;obtain ⟨l2,aj⟩:∃ l2,l2=(nw B).length:=⟨_,rfl⟩;have aB:((l2:Int) == 0)=false:=by have:=az.out;simp;omega
 have aC:=af aj;rw [<-aj];clear aj;go_wp2_with fail;rw [aC.out];refine (lB _ _ _ _ _ H1.out H2.out).mono ?_;rintro e w3 ⟨rfl,aq⟩;rw [gW,gW,HC.out];have ar:=af aq;clear aq aB;obtain ⟨l1,al⟩:∃ l1,l1=(nw A).length:=⟨_,rfl⟩;have aD:=af al;rw [<-al];generalize (nw B).length=l3 at *;clear al;go_wp2;go_ret3;exact ⟨⟨_,_,rfl,by rw [HQ.out.1,jE];exact WdsAt.nil _,by rw [HQ.out.2,aD.out];exact H1.out.kept ar.out⟩,aA.out.trans ar.out⟩
theorem FF (va vb:Value) (xs ys:List Nat) (w:World) (ha:WdsAt w va xs) (hb:WdsAt w vb ys) (h1:(nw (nv ys)).length=1) (aF:nv ys<=nv xs) :
  Calls Tryz.prog 177 #[va,vb] w fun e w'=>(∃ v1 v2,e=.returned (.tuple #[v1,v2,.nilIface])/\WdsAt w' v1 (nw (nv xs / nv ys))/\WdsAt w' v2 (nw (nv xs % nv ys)))/\gO w w':=by
 have aG:=af (fun W (hk:gO w W)=>iQ va xs W (ha.kept hk));have aH:=af (fun W (hk:gO w W)=>iQ vb ys W (hb.kept hk));obtain ⟨a0,c0,rfl⟩:=ha.shape;obtain ⟨a1,c1,rfl⟩:=hb.shape;obtain ⟨d,hd⟩:∃ d,d=(nw (nv ys)).getD 0 0:=⟨_,rfl⟩
 have ai:nv ys=d:=by
  have h2:=gW (nv ys);rw [hd];cases h3:nw (nv ys) with
  | nil=>rw [h3] at h1;simp at h1
  | cons x l =>
   rw [h3] at h1 h2
   have:l=[]:=by cases l with
    | nil=>rfl
    | cons _ _=>simp at h1
   subst this;rw [<-h2];simp [nv]
 have aI:d<4294967296:=by rw [hd];exact (lC _).getD _
 have ap:0<d:=by
  rcases Nat.eq_zero_or_pos d with h | h
  ·rw [ai,h,jE] at h1;simp at h1
  ·exact h
 obtain ⟨c,hc⟩:∃ c,c=kv (nv xs) (nv ys):=⟨_,rfl⟩
 have aJ:¬ c<0:=by
  rw [hc];rcases Nat.lt_or_ge (nv ys) (nv xs) with h | h
  ·rw [lY h];omega
  ·rw [mK (by omega)];omega
 have HD:=af hd;have aq:=af ai;have ar:=af h1;have HC:=af hc;generalize nv xs=A at *;generalize nv ys=B at *;generalize xs.length=n0 at *;generalize ys.length=n1 at *;obtain ⟨r,hr⟩:∃ r,r=A % d:=⟨_,rfl⟩;have aP:r<4294967296:=by have:=Nat.mod_lt A ap;omega
 have HR:=af hr;clear ha hb aF hd ai h1 hc hr;go_enter Tryz.func177,Tryz.ntmps177;go_wp2_with fail;refine (aG.out _ (gO.refl _)).mono ?_;rintro e w1 ⟨⟨v1,rfl,aw⟩,aj⟩;go_wp2_with fail;refine (aH.out _ aj).mono ?_;rintro e w2 ⟨⟨v2,rfl,ay⟩,al⟩;have H1:=af (aw.kept al);have H2:=af ay;have aK:=af (aj.trans al);clear aw ay aj al;obtain ⟨a2,c2,rfl⟩:=H1.out.shape;obtain ⟨a3,c3,az⟩:=H2.out.shape;rw [ar.out] at az;subst az;obtain ⟨b3,o3,rfl,ag⟩:=H2.out.get 0 (by rw [ar.out];omega);rw [<-HD.out,Nat.add_zero] at ag;have aL:=af ag;clear ag;go_wp2_with fail;refine (lB _ _ _ _ _ H1.out H2.out).mono ?_;rintro e w3 ⟨rfl,ah⟩;rw [gW,gW,<-HC.out];have ag:=ah.cell aL.out;have aM:=af ah;have aN:=af (wt _ _ d _ (H1.out.kept ah) ap aI);clear ah;generalize (nw A).length=l1 at *;go_wp2_with fail;refine aN.out.mono ?_;rintro e w4 ⟨⟨v4,rfl,am⟩,aA⟩;rw [gW] at am⊢;rw [<-HR.out];have H4:=af am;have aO:=af aA;clear am aA ag aJ;obtain ⟨a4,c4,rfl⟩:=H4.out.shape;generalize (nw (A / d)).length=l4 at *;go_wp2_with fail;refine (Cr r _ (by omega)).mono ?_;rintro e w5 ⟨⟨v5,rfl,aB⟩,aC⟩;have H5:=af aB;have aD:=af aC;clear aB aC;obtain ⟨a5,c5,rfl⟩:=H5.out.shape;go_wp2;go_ret3;exact ⟨⟨_,_,rfl,by rw [aq.out];exact H4.out.kept aD.out,by rw [aq.out,<-HR.out];exact H5.out⟩,((aK.out.trans aM.out).trans aO.out).trans aD.out⟩
theorem tM (va vb:Value) (xs ys:List Nat) (w:World) (ha:WdsAt w va xs) (hb:WdsAt w vb ys) (ag:xs.length<=274877906944) (h0:nv ys≠0) :
  Calls Tryz.prog 177 #[va,vb] w fun e w'=>(∃ v1 v2,e=.returned (.tuple #[v1,v2,.nilIface])/\WdsAt w' v1 (nw (nv xs / nv ys))/\WdsAt w' v2 (nw (nv xs % nv ys)))/\gO w w':=by
 rcases Nat.lt_or_ge (nv xs) (nv ys) with h | h
 ·exact Dy va vb xs ys w ha hb h0 h
 ·have hn:(nw (nv ys)).length≠0:=fun h=>h0 (kl.1 (List.eq_nil_of_length_eq_zero h))
  by_cases h1:(nw (nv ys)).length=1
  ·exact FF va vb xs ys w ha hb h1 h
  ·exact Dz va vb xs ys ((nw (nv ys)).length - 2) w ha hb ag (by omega) h
theorem yO (va vb:Value) (xs ys:List Nat) (w:World) (ha:WdsAt w va xs) (hb:WdsAt w vb ys) (aw:xs.length<=274877906944) (ay:ys.length<=274877906944) :
  Calls Tryz.prog 115 #[va,vb] w fun e w'=>(∃ v,e=.returned v/\WdsAt w' v (nw (Nat.gcd (nv xs) (nv ys))))/\gO w w':=by
 have aD:=af (fun W (hk:gO w W)=>iQ va xs W (ha.kept hk));have aF:=af (fun W (hk:gO w W)=>iQ vb ys W (hb.kept hk));obtain ⟨a0,c0,rfl⟩:=ha.shape;obtain ⟨a1,c1,rfl⟩:=hb.shape;have aG:Hid ((nw (nv xs)).length<=274877906944):=af (Nat.le_trans (jY ha.wd) aw);have aH:Hid ((nw (nv ys)).length<=274877906944):=af (Nat.le_trans (jY hb.wd) ay);generalize nv xs=A at *;generalize nv ys=B at *;generalize xs.length=n0 at *;generalize ys.length=n1 at *;clear ha hb aw ay;go_enter Tryz.func115,Tryz.ntmps115;go_wp2_with fail;refine (aD.out _ (gO.refl _)).mono ?_;rintro e w1 ⟨⟨v1,rfl,az⟩,aj⟩;go_wp2_with fail;refine (aF.out _ aj).mono ?_;rintro e w2 ⟨⟨v2,rfl,aA⟩,al⟩;have H1:=af (az.kept al);have H2:=af aA;have aI:=af (aj.trans al);clear az aA aj al;go_wp2_with fail;go_loopg [0,1] B (fun kx s0 s1 wr=>∃ (m n:Nat),Hid (WdsAt wr s0 (nw m))/\Hid (WdsAt wr s1 (nw n))/\n<=kx/\Hid (Nat.gcd m n=Nat.gcd A B)/\Hid ((nw m).length<=274877906944/\(nw n).length<=274877906944)/\Hid (gO w wr))
 case atStart=>exact ⟨A,B,H1,H2,Nat.le_refl _,af rfl,af ⟨aG.out,aH.out⟩,aI⟩
 case round =>
  obtain ⟨m,n,ah,ai,aO,HG,HL,HK⟩:=hrel;obtain ⟨a2,c2,rfl⟩:=ah.out.shape;obtain ⟨a3,c3,rfl⟩:=ai.out.shape;by_cases hn:n=0
  ·have HR:Hid (nw m=nw (Nat.gcd A B)):=af (by rw [<-HG.out,hn,Nat.gcd_zero_right]);have hl:(nw n).length=0:=by rw [hn,jE];rfl
   rw [hl];clear hl hn;generalize ag:(nw m).length=lm at *;have aB:=af ag;clear ag;go_wp2;go_ret;exact ⟨⟨_,rfl,by rw [<-HR.out,<-aB.out] ;first | exact ah.out | (rw [aB.out];exact ah.out)⟩,HK.out⟩
  ·have hl:(nw n).length≠0:=fun h=>hn (kl.1 (List.eq_nil_of_length_eq_zero h))
   have aC:=af (tM _ _ _ _ _ ah.out ai.out HL.out.1 (by rw [gW];exact hn));obtain ⟨r,hr⟩:∃ r,r=m % n:=⟨_,rfl⟩;have aJ:r<n:=by rw [hr];exact Nat.mod_lt _ (by omega)
   have HN:Hid (Nat.gcd n r=Nat.gcd A B):=af (by rw [<-HG.out,hr,Nat.gcd_comm n,<-Nat.gcd_rec,Nat.gcd_comm]);have aK:Hid ((nw n).length<=274877906944/\(nw r).length<=274877906944):=af ⟨HL.out.2,Nat.le_trans (iw.2 (Nat.lt_trans aJ (iw.1 (Nat.le_refl _)))) HL.out.2⟩;have HR:=af hr;obtain ⟨ln,am⟩:∃ ln,ln=(nw n).length:=⟨_,rfl⟩;have aP:(0:Int)<(ln:Int):=by omega
   have aL:0<ln:=by omega
   obtain ⟨lm,ag⟩:∃ lm,lm=(nw m).length:=⟨_,rfl⟩;rw [<-am,<-ag] at aC⊢;rw [<-am] at ai;clear hl hr hn am ag;go_wp2_with fail;refine aC.out.mono ?_;rintro e w3 ⟨⟨v3,v4,rfl,aM,ap⟩,aq⟩;rw [gW,gW,<-HR.out] at ap;have H4:=af ap;have ar:=af (ai.out.kept aq);have aN:=af (HK.out.trans aq);clear aM ap aq;go_wp2_with fail;go_roundg r
   case measure=>omega
   case rel=>exact ⟨n,r,ar,H4,Nat.le_refl _,HN,aK,aN⟩
theorem Dx (va:Value) (xs:List Nat) (w:World) (ha:WdsAt w va xs) :
  Calls Tryz.prog 206 #[va] w fun e w'=>(∃ k:Nat,e=.returned (.int .i64 k)/\(k=0 ↔ nv xs=0))/\w'=w:=by
 have HA:=af ha;obtain ⟨a0,c0,rfl⟩:=ha.shape;obtain ⟨n,hn⟩:∃ n,n=xs.length:=⟨_,rfl⟩;have ap:n<=1099511627776:=by rw [hn];exact ha.len
 rw [<-hn] at HA⊢;have HN:=af hn;clear ha hn;go_enter Tryz.func206,Tryz.ntmps206;go_wp2_with fail;go_loopg [3] n (fun kx s3 wr=>∃ k:Nat,s3=.int .i64 ((k:Int) - 1)/\k<=n/\k<=kx/\Hid (∀ i,k<=i->xs.getD i 0=0)/\w=wr)
 case atStart=>exact ⟨n,rfl,Nat.le_refl _,Nat.le_refl _,af (fun i hi=>by have:=HN.out;simp [List.getD_eq_getElem?_getD,show xs.length<=i by omega]),rfl⟩
 case round =>
  obtain ⟨k,rfl,hk,aq,HZ,rfl⟩:=hrel;by_cases aj:k=0
  ·subst aj;have HV:Hid (nv xs=0):=af (tO xs fun i=>HZ.out i (by omega));go_wp2;go_ret;exact ⟨⟨0,rfl,by simp [HV.out]⟩,rfl⟩
  ·obtain ⟨j,rfl⟩:∃ j,k=j+1:=⟨k - 1,by omega⟩;obtain ⟨b,o,rfl,hc⟩:=HA.out.get j (by have:=HN.out;omega);have ah:=HA.out.wd.getD j;obtain ⟨x,hx⟩:∃ x,x=xs.getD j 0:=⟨_,rfl⟩;rw [<-hx] at hc ah;have e1:((j+1:Nat):Int) - 1=(j:Int):=by omega
   have ar:(0:Int)<=(j:Int):=by omega
   have aw:(j:Int)<(n:Int):=by omega
   have HX:=af hx;rw [e1];clear hx e1 aj;by_cases ag:x=0
   ·subst ag;go_wp2_with fail;go_roundg j
    case measure=>omega
    case rel=>exact ⟨j,rfl,by omega,Nat.le_refl _,af (fun i hi=>by
     by_cases h:i=j
     ·rw [h];exact HX.out.symm
     ·exact HZ.out i (by omega)),rfl⟩
   ·obtain ⟨p,hp,_⟩:=vm (x:=x) (Nat.lt_of_lt_of_le ah (by omega)) ag;have ai:p+1<=32:=by rw [<-hp];exact Lib.bitLen_le x 32 (by omega) (by rw [show (2:Nat)^32=4294967296 by rfl];exact ah)
    have HB:Hid (Calls Tryz.prog 201 #[.int .u32 (x:Int)] w fun e w'=>e=.returned (.int .i64 ((p+1:Nat):Int))/\w'=w):=af (by
     have h:=Tryz.bits_Len32 (x:Int) w (by omega) (by omega);simp only [Int.toNat_natCast,hp] at h;exact h)
    have hb:((x:Int) == 0)=false:=by simp;exact ag
    have hb':((x:Int) != 0)=true:=by simp;exact ag
    have al:Hid (nv xs≠0):=af fun h=>ag (by rw [HX.out];exact tP h j)
    obtain ⟨q,hq⟩:∃ q,q=p+1:=⟨_,rfl⟩;rw [<-hq] at HB ai;obtain ⟨t,ht⟩:∃ t,t=32*j:=⟨_,rfl⟩;have et:32*(j:Int)=(t:Int):=by omega
    have ay:t<=35184372088832:=by omega
    obtain ⟨z,hz⟩:∃ z,z=t+q:=⟨_,rfl⟩;have ez:(t:Int)+(q:Int)=(z:Int):=by omega
    have az:z<=35184372088864:=by omega
    have am:Hid (z≠0):=af (by omega);clear hp hq ht hz ag;go_wp2_with (go_at_call 201;(with_reducible refine HB.out.mono ?_);rintro e w3 ⟨rfl,rfl⟩);go_ret;exact ⟨⟨z,rfl,⟨fun h=>absurd h am.out,fun h=>absurd h al.out⟩⟩,rfl⟩
def RatAt (w:World) (v:Value) (r:Rw):Prop:=∃ u1 u2,v=.agg #[.bool r.neg,u1,u2]/\WdsAt w u1 r.num/\WdsAt w u2 r.den
theorem RatAt.kept {w w':World} {v:Value} {r:Rw} (h:RatAt w v r) (hk:gO w w'):RatAt w' v r:=by
 obtain ⟨u1,u2,h1,h2,h3⟩:=h;exact ⟨u1,u2,h1,h2.kept hk,h3.kept hk⟩
theorem RatAt.ok {w:World} {v:Value} {r:Rw} (h:RatAt w v r):r.Ok:=by obtain ⟨u1,u2,_,h2,h3⟩:=h;exact ⟨h2.wd,h3.wd⟩
def Rw.Short (r:Rw) (n:Nat):Prop:=r.num.length<=n/\r.den.length<=n
theorem RatAt.zero (w:World):RatAt w (.agg #[.bool false,.slice none 0 0,.slice none 0 0]) ⟨false,[],[]⟩:=⟨_,_,rfl,WdsAt.nil w,WdsAt.nil w⟩
theorem oR (w:World):Calls Tryz.prog 93 #[] w fun e w'=>(∃ v,e=.returned v/\WdsAt w' v [1])/\gO w w':=by
 go_enter Tryz.func93,Tryz.ntmps93;go_wp2;go_ret;exact ⟨⟨_,rfl,re w 1 (by omega)⟩,(gO.refl _).alloc _⟩
theorem uD (v:Value) (xs:List Nat) (w:World) (hv:WdsAt w v xs):Calls Tryz.prog 114 #[v] w fun e w'=>e=.returned (.bool (js xs))/\w'=w:=by
 obtain ⟨a,c,rfl⟩:=hv.shape;have hl:=hv.len;obtain ⟨n,hn⟩:∃ n,n=xs.length:=⟨_,rfl⟩;rw [<-hn] at hv hl⊢;by_cases h0:n=0
 ·have hp:js xs=false:=by unfold js;rw [<-hn,h0];rfl
  rw [hp];subst h0;clear hv hn hp;go_enter Tryz.func114,Tryz.ntmps114;go_wp2;go_ret;exact ⟨rfl,rfl⟩
 ·obtain ⟨m,hm⟩:∃ m,n=m+1:=⟨n - 1,by omega⟩;obtain ⟨b,o,rfl,hc⟩:=hv.get m (by omega);obtain ⟨x,hx⟩:∃ x,x=xs.getD m 0:=⟨_,rfl⟩
  have hp:js xs=!((x:Int) == 0):=by
   unfold js;rw [<-hn,hm,Nat.add_sub_cancel,<-hx];by_cases h:x=0
   ·simp [h]
   ·have:((x:Int) == 0)=false:=by simp;exact h
    simp [h,this]
  rw [hp];rw [<-hx] at hc;have e1:(n:Int) - 1=(m:Int):=by omega
  have aj:(0:Int)<(n:Int):=by omega
  have al:0<n:=by omega
  have am:m<n:=by omega
  have ah:(m:Int)<(n:Int):=by omega
  obtain ⟨bx,ag⟩:∃ bx,((x:Int) == 0)=bx:=⟨_,rfl⟩;rw [ag];clear hv hn hp hx hm h0;cases bx with
  | true =>
   have ai:((x:Int) != 0)=false:=by simp [bne,ag]
   go_enter Tryz.func114,Tryz.ntmps114;go_wp2;go_ret;exact ⟨by first | rfl | simp,rfl⟩
  | false =>
   have ai:((x:Int) != 0)=true:=by simp [bne,ag]
   go_enter Tryz.func114,Tryz.ntmps114;go_wp2;go_ret;exact ⟨by first | rfl | simp,rfl⟩
theorem Hp (g:Nat):(kv g 1 == 0)=(g == 1):=by
 rcases Nat.lt_trichotomy g 1 with h | h | h
 ·rw [mL h]
  have:(g == 1)=false:=by simp;omega
  rw [this];rfl
 ·rw [mK h];simp [h]
 ·rw [lY h]
  have:(g == 1)=false:=by simp;omega
  rw [this];rfl
theorem nX (v:Value) (r:Rw) (w:World) (hv:RatAt w v r) (hs:r.Short 274877906944):Calls Tryz.prog 68 #[v] w fun e w'=>e=.returned (.bool (iW r))/\gO w w':=by
 obtain ⟨neg,num,den⟩:=r;obtain ⟨u1,u2,rfl,h1,h2⟩:=hv;obtain ⟨al,am⟩:=hs;simp only at h1 h2 al am;obtain ⟨a1,c1,rfl⟩:=h1.shape;obtain ⟨a2,c2,rfl⟩:=h2.shape;obtain ⟨n1,ah⟩:∃ n1,n1=num.length:=⟨_,rfl⟩;obtain ⟨n2,ai⟩:∃ n2,n2=den.length:=⟨_,rfl⟩;rw [<-ah] at h1⊢;rw [<-ai] at h2⊢;have HR:=af (gS.made w #[.bool neg,.slice a1 n1 c1,.slice a2 n2 c2] 29);have ag:Hid (gO w (w.alloc (.cells #[.bool neg,.slice a1 n1 c1,.slice a2 n2 c2] 29))):=af ((gO.refl w).alloc _);have H1:=af h1;have H2:=af h2;by_cases he:num=[]/\den=[]
 ·have hV:iW ⟨neg,num,den⟩=!neg:=by unfold iW;rw [if_pos he]
  have e1:n1=0:=by rw [ah,he.1];rfl
  have e2:n2=0:=by rw [ai,he.2];rfl
  rw [hV];subst e1 e2;clear h1 h2 ah ai hV he HR;go_enter Tryz.func68,Tryz.ntmps68;go_wp2;go_ret;exact ⟨rfl,ag.out⟩
 ·have hV:iW ⟨neg,num,den⟩=(js num&&js den&&(Nat.gcd (nv num) (nv den) == 1)):=by unfold iW;rw [if_neg he]
  rw [hV];have aj:=af (fun W (hk:gO w W)=>uD _ num W (h1.kept hk));have aw:=af (fun W (hk:gO w W)=>uD _ den W (h2.kept hk));have aH:=af (fun W (hk:gO w W)=>yO _ _ num den W (h1.kept hk) (h2.kept hk) al am);generalize js den=p2 at *;obtain ⟨p1,ap⟩:∃ p1,p1=js num:=⟨_,rfl⟩;rw [<-ap] at aj⊢
  have hc:(n1≠0)\/(n1=0/\n2≠0/\p1=false):=by
   by_cases h:n1=0
   ·refine .inr ⟨h,fun h3=>he ⟨List.eq_nil_of_length_eq_zero (ah.symm.trans h),List.eq_nil_of_length_eq_zero (ai.symm.trans h3)⟩,?_⟩;rw [ap,List.eq_nil_of_length_eq_zero (ah.symm.trans h)];rfl
   ·exact .inl h
  generalize Nat.gcd (nv num) (nv den)=g at *
  have ay:Hid (∀ W v1 v2,WdsAt W v1 (nw g)->WdsAt W v2 [1]->Calls Tryz.prog 69 #[v1,v2] W fun e w'=>e=.returned (.int .i64 (kv g 1))/\gO W w'):=af fun W v1 v2 k1 k2=>by
   have h:=lB v1 v2 _ _ W k1 k2;rw [gW] at h;exact h
  obtain ⟨bg,az⟩:∃ bg,(g == 1)=bg:=⟨_,rfl⟩;have aA:=Hp g;rw [az] at aA⊢;obtain ⟨cg,aB⟩:∃ cg,cg=kv g 1:=⟨_,rfl⟩;rw [<-aB] at aA ay;clear h1 h2 ah ai hV he ap az aB al am;rcases hc with hc | ⟨hc,hc2,rfl⟩
  ·have aI:((n1:Int) == 0)=false:=by simp;exact hc
   clear hc;cases p1 with
   | false =>
    go_enter Tryz.func68,Tryz.ntmps68;go_wp2_with (go_at_call 114;(with_reducible refine (aj.out _ ag.out).mono ?_);rintro e w2 ⟨rfl,rfl⟩);go_ret;exact ⟨by simp,ag.out⟩
   | true =>
    cases p2 with
    | false =>
     go_enter Tryz.func68,Tryz.ntmps68;go_wp2_with (first | (go_at_call 114;(with_reducible refine (aj.out _ ag.out).mono ?_);rintro e w2 ⟨rfl,rfl⟩) | (go_at_call 114;(with_reducible refine (aw.out _ ag.out).mono ?_);rintro e w2 ⟨rfl,rfl⟩));go_ret;exact ⟨by simp,ag.out⟩
    | true =>
     go_enter Tryz.func68,Tryz.ntmps68
     go_wp2_with (first
      | (go_at_call 114;(with_reducible refine (aj.out _ ag.out).mono ?_);rintro e w2 ⟨rfl,rfl⟩)
      | (go_at_call 114;(with_reducible refine (aw.out _ ag.out).mono ?_);rintro e w2 ⟨rfl,rfl⟩)
      | (go_at_call 115;(with_reducible refine (aH.out _ ag.out).mono ?_);rintro e w2 ⟨⟨vg,rfl,aC⟩,aD⟩;have aJ:=af aC;have aK:=af (ag.out.trans aD);clear aC aD)
      | (go_at_call 93;(with_reducible refine (oR _).mono ?_);rintro e w3 ⟨⟨vo,rfl,aF⟩,aq⟩;have ar:=af (aJ.out.kept aq);have aL:=af aF;have aM:=af (aK.out.trans aq);clear aF aq)
      | (go_at_call 69;(with_reducible refine (ay.out _ _ _ ar.out aL.out).mono ?_);rintro e w4 ⟨rfl,aG⟩;have aN:=af (aM.out.trans aG);clear aG))
     go_ret;exact ⟨by simp,aN.out⟩
  ·have aI:((n2:Int) == 0)=false:=by simp;exact hc2
   subst hc;clear hc2;go_enter Tryz.func68,Tryz.ntmps68;go_wp2_with (go_at_call 114;(with_reducible refine (aj.out _ ag.out).mono ?_);rintro e w2 ⟨rfl,rfl⟩);go_ret;exact ⟨by simp,ag.out⟩
def iX (w:World) (g:Nat) (xs:List Value):Prop:=∃ cur e,w.heap[g]?=some (.cells cur e (0,0))/\cur.toList=xs
theorem iX.made (w:World) (cs:Array Value) (e:TypeId):iX (w.alloc (.cells cs e)) w.heap.size cs.toList:=⟨cs,e,heap_alloc_new w _,rfl⟩
theorem iX.lt {w:World} {g:Nat} {xs:List Value} (h:iX w g xs):g<w.heap.size:=by
 obtain ⟨cur,e,h1,_⟩:=h;rcases Nat.lt_or_ge g w.heap.size with h2 | h2
 ·exact h2
 ·simp [Array.getElem?_eq_none h2] at h1
theorem iX.kept {w w':World} {g:Nat} {xs:List Value} (h:iX w g xs) (hk:gO w w'):iX w' g xs:=by
 have hl:=h.lt;obtain ⟨cur,e,h1,h2⟩:=h;exact ⟨cur,e,(hk.block g hl).trans h1,h2⟩
theorem iX.only {w:World} {g i:Nat} {xs:List Value} {u:Value} (h:iX w g xs) (hc:w.cell? ⟨g,i,none⟩=some u):u∈xs:=by
 obtain ⟨arr,e,h1,h2⟩:=h;simp only [World.cell?,h1] at hc;rw [<-h2];have:=Array.mem_of_getElem? hc;simpa using this
theorem WdsAt.apart {w w':World} {g:Nat} {v:Value} {xs:List Nat} {row:List Value} (h:WdsAt w v xs) (hr:iX w g row) (hn:∀ k x,Value.int k x ∉ row) (ho:iq g w w'):WdsAt w' v xs:=by
 obtain ⟨a,c,h1,h2,h3,h4,h5⟩:=h;refine ⟨a,c,h1,h2,h3,h4,fun i hi=>?_⟩;obtain ⟨b,o,h6,h7⟩:=h5 i hi;refine ⟨b,o,h6,?_⟩
 have ag:b≠g:=fun e=>by
  subst e;exact hn _ _ (hr.only h7)
 have ah:b<w.heap.size:=by
  rcases Nat.lt_or_ge b w.heap.size with h8 | h8
  ·exact h8
  ·simp [World.cell?,Array.getElem?_eq_none h8] at h7
 have:=ho.block b ah ag;simp only [World.cell?,this] at h7⊢;exact h7
theorem ju (v:Value) (r:Rw) (w:World) (hv:RatAt w v r) (hs:r.Short 274877906944):Calls Tryz.prog 62 #[v] w fun e w'=>(∃ u1 u2,e=.returned (.tuple #[.bool (gP r).1,u1,u2])/\WdsAt w' u1 (gP r).2.1/\WdsAt w' u2 (gP r).2.2)/\gO w w':=by
 have ah:=af (fun W (hk:gO w W)=>nX v r W (hv.kept hk) hs);obtain ⟨neg,num,den⟩:=r;obtain ⟨u1,u2,rfl,h1,h2⟩:=hv;simp only at h1 h2;obtain ⟨a1,c1,rfl⟩:=h1.shape;obtain ⟨a2,c2,rfl⟩:=h2.shape;obtain ⟨n1,aj⟩:∃ n1,n1=num.length:=⟨_,rfl⟩;obtain ⟨n2,ar⟩:∃ n2,n2=den.length:=⟨_,rfl⟩;rw [<-aj] at h1 ah⊢;rw [<-ar] at h2 ah⊢;have H1:=af h1;have H2:=af h2;obtain ⟨w1,aw⟩:∃ w1,w1=w.alloc (.cells #[.bool neg,.slice a1 n1 c1,.slice a2 n2 c2] 29):=⟨_,rfl⟩;have HR:Hid (gS w1 w.heap.size 29 [.bool neg,.slice a1 n1 c1,.slice a2 n2 c2]):=af (by rw [aw];exact gS.made w #[.bool neg,.slice a1 n1 c1,.slice a2 n2 c2] 29);have al:Hid (gO w w1):=af (by rw [aw];exact (gO.refl w).alloc _);have q0:=HR.out.cell (i:=0) (by simp);have q1:=HR.out.cell (i:=1) (by simp);have q2:=HR.out.cell (i:=2) (by simp);simp only [List.getElem_cons_succ,List.getElem_cons_zero] at q0 q1 q2;have ay:=af aw;clear aw;by_cases hg:iW ⟨neg,num,den⟩=true/\num≠[]
 ·have hP:gP ⟨neg,num,den⟩=(neg,num,den):=by unfold gP;rw [if_pos hg]
  rw [hP];rw [hg.1] at ah
  have aB:((n1:Int) == 0)=false:=by
   have:n1≠0:=fun h=>hg.2 (List.eq_nil_of_length_eq_zero (aj.symm.trans h))
   simp;exact this
  clear h1 h2 hP hg aj ar hs;go_enter Tryz.func62,Tryz.ntmps62;go_wp2_with fail;rw [<-ay.out];refine (ah.out _ al.out).mono ?_;rintro e w2 ⟨rfl,ag⟩;have y0:=ag.cell q0;have y1:=ag.cell q1;have y2:=ag.cell q2;have ai:=af (al.out.trans ag);clear ag q0 q1 q2;go_wp2_with fail;go_quiet (fail);go_wp2;go_ret3;exact ⟨⟨_,_,rfl,H1.out.kept (ai.out.drewN _),H2.out.kept (ai.out.drewN _)⟩,ai.out.drewN _⟩
 ·have hP:gP ⟨neg,num,den⟩=(false,[],[1]):=by unfold gP;rw [if_neg hg]
  rw [hP];by_cases am:iW ⟨neg,num,den⟩=true
  ·have h0:n1=0:=by
    rw [aj];by_cases h:num=[]
    ·rw [h];rfl
    ·exact absurd ⟨am,h⟩ hg
   rw [am] at ah;subst h0;clear h1 h2 hP hg aj ar hs am;go_enter Tryz.func62,Tryz.ntmps62;go_wp2_with fail;rw [<-ay.out];refine (ah.out _ al.out).mono ?_;rintro e w2 ⟨rfl,ag⟩;have y1:=ag.cell q1;have ai:=af (al.out.trans ag);clear ag q0 q1 q2;go_wp2_with fail;refine (oR _).mono ?_;rintro e w3 ⟨⟨v3,rfl,ap⟩,aq⟩;have H3:=af ap;have az:=af (ai.out.trans aq);clear ap aq;go_wp2;go_ret3;exact ⟨⟨_,_,rfl,WdsAt.nil _,H3.out⟩,az.out⟩
  ·have aA:iW ⟨neg,num,den⟩=false:=by simpa using am
   rw [aA] at ah;clear h1 h2 hP hg aj ar hs am aA;go_enter Tryz.func62,Tryz.ntmps62;go_wp2_with fail;rw [<-ay.out];refine (ah.out _ al.out).mono ?_;rintro e w2 ⟨rfl,ag⟩;have ai:=af (al.out.trans ag);clear ag q0 q1 q2;go_wp2_with fail;refine (oR _).mono ?_;rintro e w3 ⟨⟨v3,rfl,ap⟩,aq⟩;have H3:=af ap;have az:=af (ai.out.trans aq);clear ap aq;go_wp2;go_ret3;exact ⟨⟨_,_,rfl,WdsAt.nil _,H3.out⟩,az.out⟩
theorem lf (neg:Bool) (va vb:Value) (xs ys:List Nat) (w:World) (ha:WdsAt w va xs) (hb:WdsAt w vb ys) (ar:xs.length<=274877906944) (aw:ys.length<=274877906944) (hd:nv ys≠0) :
  Calls Tryz.prog 141 #[.bool neg,va,vb] w fun e w'=>(∃ v,e=.returned v/\RatAt w' v (nt neg (nv xs) (nv ys)))/\gO w w':=by
 have HB:=af (fun W (hk:gO w W)=>Dx va xs W (ha.kept hk));have HG:=af (fun W (hk:gO w W)=>yO va vb xs ys W (ha.kept hk) (hb.kept hk) ar aw)
 have aL:Hid (∀ W vg,gO w W->WdsAt W vg (nw (Nat.gcd (nv xs) (nv ys)))->Calls Tryz.prog 177 #[va,vg] W fun e w'=>(∃ v1 v2,e=.returned (.tuple #[v1,v2,.nilIface])/\WdsAt w' v1 (nw (nv xs / Nat.gcd (nv xs) (nv ys))))/\gO W w'):=af fun W vg hk hg =>
  (tM va vg xs _ W (ha.kept hk) hg ar (by rw [gW];exact fun h=>hd (Nat.eq_zero_of_gcd_eq_zero_right h))).mono fun _ _ ⟨⟨v1,v2,h1,h2,_⟩,h3⟩=>⟨⟨v1,v2,h1,by rw [gW] at h2;exact h2⟩,h3⟩
 have aM:Hid (∀ W vg,gO w W->WdsAt W vg (nw (Nat.gcd (nv xs) (nv ys)))->Calls Tryz.prog 177 #[vb,vg] W fun e w'=>(∃ v1 v2,e=.returned (.tuple #[v1,v2,.nilIface])/\WdsAt w' v1 (nw (nv ys / Nat.gcd (nv xs) (nv ys))))/\gO W w'):=af fun W vg hk hg =>
  (tM vb vg ys _ W (hb.kept hk) hg aw (by rw [gW];exact fun h=>hd (Nat.eq_zero_of_gcd_eq_zero_right h))).mono fun _ _ ⟨⟨v1,v2,h1,h2,_⟩,h3⟩=>⟨⟨v1,v2,h1,by rw [gW] at h2;exact h2⟩,h3⟩
 obtain ⟨a0,c0,rfl⟩:=ha.shape;obtain ⟨a1,c1,rfl⟩:=hb.shape;generalize xs.length=n0 at *;generalize ys.length=n1 at *;obtain ⟨w1,ah⟩:∃ w1,w1=w.alloc (.cells #[.bool false,.slice none 0 0,.slice none 0 0] 29):=⟨_,rfl⟩;have HR:Hid (gS w1 w.heap.size 29 [.bool false,.slice none 0 0,.slice none 0 0]):=af (by rw [ah];exact gS.made w #[.bool false,.slice none 0 0,.slice none 0 0] 29);have ai:Hid (gO w w1):=af (by rw [ah];exact (gO.refl w).alloc _);have aN:Hid (iX w1 w.heap.size [.bool false,.slice none 0 0,.slice none 0 0]):=af (by rw [ah];exact iX.made w #[.bool false,.slice none 0 0,.slice none 0 0] 29);have aC:=af ah;clear ah ha hb ar aw hd;by_cases h0:nv xs=0
 ·have hF:nt neg (nv xs) (nv ys)=⟨false,[],[]⟩:=by unfold nt;rw [if_pos h0]
  rw [hF];have H0:=af h0;clear hF h0;go_enter Tryz.func141,Tryz.ntmps141;go_wp2_with fail;rw [<-aC.out];refine (HB.out _ ai.out).mono ?_;rintro e w2 ⟨⟨k,rfl,hk⟩,rfl⟩;have ay:k=0:=hk.2 H0.out;subst ay;clear hk;have g0:=HR.out.cell (i:=0) (by simp);have g1:=HR.out.cell (i:=1) (by simp);have g2:=HR.out.cell (i:=2) (by simp);have f0:=HR.out.free 0;have f1:=HR.out.free 1;have f2:=HR.out.free 2;go_wp2;have hF:=(((HR.out.store 0 (.bool false)).store 1 (.slice none 0 0)).store 2 (.slice none 0 0));have y0:=hF.cell (i:=0) (by simp);have y1:=hF.cell (i:=1) (by simp);have y2:=hF.cell (i:=2) (by simp);simp only [List.set_cons_zero,List.set_cons_succ,List.getElem_cons_succ,List.getElem_cons_zero] at y0 y1 y2;refine bodyPost_ret (v:=.agg #[.bool false,.slice none 0 0,.slice none 0 0]) ?_ rfl ⟨⟨_,rfl,RatAt.zero _⟩,?_⟩
  ·simp [results,Tryz.results141,go_sem,y0,y1,y2]
  ·exact ((ai.out.store (Nat.le_refl _) _ _).store (Nat.le_refl _) _ _).store (Nat.le_refl _) _ _
 ·have hF:nt neg (nv xs) (nv ys)=⟨neg,nw (nv xs / Nat.gcd (nv xs) (nv ys)),nw (nv ys / Nat.gcd (nv xs) (nv ys))⟩:=by unfold nt;rw [if_neg h0]
  rw [hF];have H0:=af h0;clear hF h0;generalize nw (nv xs / Nat.gcd (nv xs) (nv ys))=P at *;generalize nw (nv ys / Nat.gcd (nv xs) (nv ys))=Q at *;generalize nw (Nat.gcd (nv xs) (nv ys))=G at *;go_enter Tryz.func141,Tryz.ntmps141;go_wp2_with fail;rw [<-aC.out];refine (HB.out _ ai.out).mono ?_;rintro e w2 ⟨⟨k,rfl,hk⟩,rfl⟩
  have ay:((k:Int) == 0)=false:=by
   have:k≠0:=fun h=>H0.out (hk.1 h)
   simp;exact this
  clear hk;go_wp2_with fail;refine (HG.out _ ai.out).mono ?_;rintro e w3 ⟨⟨v3,rfl,aD⟩,aq⟩;have aF:=af aD;have aG:=af (ai.out.trans aq);have aO:=af (HR.out.kept aq);have az:=af (aN.out.kept aq);clear aD aq ay;go_wp2_with fail;refine (aL.out _ _ aG.out aF.out).mono ?_;rintro e w4 ⟨⟨v4,v5,rfl,aH⟩,aj⟩;have aP:=af aH;have aA:=af (aF.out.kept aj);have aI:=af (aG.out.trans aj);have aQ:=af (aO.out.kept aj);have aB:=af (az.out.kept aj);clear aH aj;go_wp2_with fail;refine (aM.out _ _ aI.out aA.out).mono ?_;rintro e w5 ⟨⟨v6,v7,rfl,aJ⟩,al⟩;have aK:=af aJ;have am:=af (aP.out.kept al);have aR:=af (aI.out.trans al);have ag:=af (aQ.out.kept al);have ap:=af (aB.out.kept al);clear aJ al;obtain ⟨a4,c4,rfl⟩:=am.out.shape;obtain ⟨a6,c6,rfl⟩:=aK.out.shape;have g0:=ag.out.cell (i:=0) (by simp);have g1:=ag.out.cell (i:=1) (by simp);have g2:=ag.out.cell (i:=2) (by simp);have f0:=ag.out.free 0;have f1:=ag.out.free 1;have f2:=ag.out.free 2;go_wp2;have hF:=(((ag.out.store 0 (.bool neg)).store 1 (.slice a4 P.length c4)).store 2 (.slice a6 Q.length c6));have y0:=hF.cell (i:=0) (by simp);have y1:=hF.cell (i:=1) (by simp);have y2:=hF.cell (i:=2) (by simp);simp only [List.set_cons_zero,List.set_cons_succ,List.getElem_cons_succ,List.getElem_cons_zero] at y0 y1 y2
  have hO:=(((iq.refl w.heap.size w5).store 0 (.bool neg)).store 1 (.slice a4 P.length c4)).store 2 (.slice a6 Q.length c6);have z1:=am.out.apart ap.out (by simp) hO;have z2:=aK.out.apart ap.out (by simp) hO;refine bodyPost_ret (v:=.agg #[.bool neg,.slice a4 P.length c4,.slice a6 Q.length c6]) ?_ rfl ⟨⟨_,rfl,⟨_,_,rfl,z1,z2⟩⟩,?_⟩
  ·simp [results,Tryz.results141,go_sem,y0,y1,y2]
  ·exact ((aR.out.store (Nat.le_refl _) _ _).store (Nat.le_refl _) _ _).store (Nat.le_refl _) _ _
theorem il {r:Rw} {k:Nat} (h:r.Short k) (hk:1<=k):(gP r).2.1.length<=k/\(gP r).2.2.length<=k:=by
 unfold gP;split
 ·exact h
 ·exact ⟨by simp,by simpa using hk⟩
theorem rH (r:Rw):mkRat (sg (!(gP r).1) (nv (gP r).2.1)) (nv (gP r).2.2)=- gT r:=by
 unfold gT;rw [JO,Rat.neg_mkRat]
theorem rG {r s:Rw}:mkRat (sg ((gP r).1 != (gP s).1) (nv (gP r).2.1*nv (gP s).2.1)) (nv (gP r).2.2*nv (gP s).2.2)=gT r*gT s:=by
 unfold gT;rw [JN,Rat.mkRat_mul_mkRat]
theorem rF {r s:Rw} (hr:r.Ok) (hs:s.Ok) (h:(gP r).1=(gP s).1):mkRat (sg (gP r).1 (nv (gP r).2.1*nv (gP s).2.2+nv (gP s).2.1*nv (gP r).2.2)) (nv (gP r).2.2*nv (gP s).2.2)=gT r+gT s:=by
 unfold gT;rw [Rat.mkRat_add_mkRat _ _ (ij hr).2.2.1 (ij hs).2.2.1,JM,nB,h,nB]
theorem rI {r s:Rw} (hr:r.Ok) (hs:s.Ok) (h:(gP r).1≠(gP s).1) (ag:nv (gP s).2.1*nv (gP r).2.2<=nv (gP r).2.1*nv (gP s).2.2):mkRat (sg (gP r).1 (nv (gP r).2.1*nv (gP s).2.2 - nv (gP s).2.1*nv (gP r).2.2)) (nv (gP r).2.2*nv (gP s).2.2)=gT r+gT s:=by
 unfold gT;rw [Rat.mkRat_add_mkRat _ _ (ij hr).2.2.1 (ij hs).2.2.1,JP h ag,nB,nB]
theorem qh {r s:Rw} (hr:r.Ok) (hs:s.Ok) (h:(gP r).1≠(gP s).1) (ag:nv (gP r).2.1*nv (gP s).2.2<=nv (gP s).2.1*nv (gP r).2.2):mkRat (sg (gP s).1 (nv (gP s).2.1*nv (gP r).2.2 - nv (gP r).2.1*nv (gP s).2.2)) (nv (gP r).2.2*nv (gP s).2.2)=gT r+gT s:=by
 unfold gT;rw [Rat.mkRat_add_mkRat _ _ (ij hr).2.2.1 (ij hs).2.2.1,Iv h ag,nB,nB]
theorem uL {r:Rw} (hr:r.Ok):((gP r).2.1.length=0 ↔ gT r=0)/\((gP r).2.1.length≠0->((gP r).1=true ↔ gT r<0)):=by
 have ag:=ij hr
 have h0:(gP r).2.1.length=0 ↔ nv (gP r).2.1=0:=by
  constructor
  ·intro h;rw [List.eq_nil_of_length_eq_zero h];rfl
  ·intro h;have:=Cs ag.1 ag.2.2.2.1;rw [h,jE] at this;rw [<-this];rfl
 have h1:gT r=0 ↔ nv (gP r).2.1=0:=by
  unfold gT;rw [Rat.mkRat_eq_zero ag.2.2.1];constructor
  ·intro h;have:=xO (gP r).1 (nv (gP r).2.1);rw [h] at this;simpa using this.symm
  ·intro h;rw [h];exact sY _
 refine ⟨h0.trans h1.symm,fun ah=>?_⟩;have hn:nv (gP r).2.1≠0:=fun h=>ah (h0.2 h)
 unfold gT
 have h2:mkRat (sg (gP r).1 (nv (gP r).2.1)) (nv (gP r).2.2)<0 ↔ sg (gP r).1 (nv (gP r).2.1)<0:=by
  have hd:(0:Int)<(nv (gP r).2.2:Int):=by have:=ag.2.2.1;omega
  rw [<-Rat.divInt_ofNat,<-Int.not_le,<-Rat.not_le];rw [show (0<=Rat.divInt (sg (gP r).1 (nv (gP r).2.1)) (nv (gP r).2.2:Int)) ↔ 0<=sg (gP r).1 (nv (gP r).2.1) from Rat.divInt_nonneg_iff_of_pos_right hd]
 rw [h2];unfold sg;cases (gP r).1 with
 | true=>simp;omega
 | false=>simp
theorem iC {w:World} {g:Nat} {T:TypeId} {v1 v2:Value} {r:Rw} (hr:gS w g T [.bool false,.slice none 0 0,.slice none 0 0]) (hf:iX w g [.bool false,.slice none 0 0,.slice none 0 0]) (h1:WdsAt w v1 r.num) (h2:WdsAt w v2 r.den) :
  (((w.setCell ⟨g,0,none⟩ (.bool r.neg)).setCell ⟨g,1,none⟩ v1).setCell ⟨g,2,none⟩ v2).cell? ⟨g,0,none⟩=some (.bool r.neg) /\
  (((w.setCell ⟨g,0,none⟩ (.bool r.neg)).setCell ⟨g,1,none⟩ v1).setCell ⟨g,2,none⟩ v2).cell? ⟨g,1,none⟩=some v1 /\
  (((w.setCell ⟨g,0,none⟩ (.bool r.neg)).setCell ⟨g,1,none⟩ v1).setCell ⟨g,2,none⟩ v2).cell? ⟨g,2,none⟩=some v2 /\
  RatAt (((w.setCell ⟨g,0,none⟩ (.bool r.neg)).setCell ⟨g,1,none⟩ v1).setCell ⟨g,2,none⟩ v2) (.agg #[.bool r.neg,v1,v2]) r:=by
 have hF:=(((hr.store 0 (.bool r.neg)).store 1 v1).store 2 v2);have y0:=hF.cell (i:=0) (by simp);have y1:=hF.cell (i:=1) (by simp);have y2:=hF.cell (i:=2) (by simp);simp only [List.set_cons_zero,List.set_cons_succ,List.getElem_cons_succ,List.getElem_cons_zero] at y0 y1 y2;have hO:=(((iq.refl g w).store 0 (.bool r.neg)).store 1 v1).store 2 v2;exact ⟨y0,y1,y2,_,_,rfl,h1.apart hf (by simp) hO,h2.apart hf (by simp) hO⟩
end Go.Proofs.YtofibjflkebkpaaGreatDoor
