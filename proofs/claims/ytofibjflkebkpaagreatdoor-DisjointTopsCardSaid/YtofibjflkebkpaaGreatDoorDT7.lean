import Derived.WalkKit
import Derived.WalkSpells
import Derived.WalkLawsBesides
import Derived.Deep.QuietTactic
import Derived.BigQuiet
import Derived.Lib.Hide
import Derived.Shelf.Abstract
import Derived.Deep.RegionWith
import Derived.Laws.AppendOwnNone
import Derived.Lib.AppendZerosOnto
import Derived.Lib.SliceRun
import Derived.Lib.SlicesCompact
import Derived.Shelf.SlSortCmp.NoneTotal
import Derived.Maps.OwnOps
import Derived.Maps.OwnSet
import Derived.Maps.Views
import Derived.Deep.MidRow
import Derived.Deep.RegionHeld3
import Derived.Deep.AppendLies
import Derived.Deep.RegionLaw
import Derived.IntWalk
import Derived.StillTailTactics
import Derived.RegionTactic
import Derived.BigRegion
import Derived.ChangeAlike
import Derived.Sort.LotD2
import Derived.Sort.LotA
import Derived.Shelf.SlSortCmp.PdqK
import Derived.Deep.DeepCutAuto
import Derived.Lib.ItoaNum
import Derived.Deep.LoopGhost
import Derived.ProofKit
import Derived.OpenShut
import Derived.SizedLaws
import Derived.Lib.SmallJoins
import Derived.Deep.Slices
import Derived.Deep.Fields
import Derived.Deep.Strs
import Derived.Carry
import Derived.Lib.BitFns
import Derived.Deep.CutBlock
import Derived.Test.YtofibjflkebkpaaGreatDoorDT6
import Derived.Test.YtofibjflkebkpaaGreatDoorDT4
set_option maxRecDepth 100000
set_option maxHeartbeats 16000000
namespace Go.Proofs.YtofibjflkebkpaaGreatDoor
open Go.RowKit
theorem mc (w:World) (n:Nat) (hn:n<=549755813888):∃ w',Sem.run Tryz.prog (Instr.makeSlice 27 (.int .i64 (n:Int)) (.int .i64 (n:Int))) w=Result.ok (.slice (some ⟨w.heap.size,0,none⟩) n n) w'/\ai w' w.heap.size 70 (List.replicate n (.int .u32 0))/\af w w':=by
 obtain ⟨i0,hi0,hz0,hz1,hz2⟩:=info_parts cI;obtain ⟨w',hrun,r1,r2⟩:=run_make_full (P:=Tryz.prog) w w.heap.size 27 70 i0 (.int .u32 0) 1 Tryz.underlying27 hi0 hz0 hz1 .i64 .i64 n (by rw [hz2];omega) (by unfold maxLen;omega) (Nat.le_refl _);refine ⟨w',hrun,?_,⟨r2.os,r2.tape,r2.output,r2.size,fun k hk=>r2.block k hk (by simp)⟩⟩;rw [pI (.int .u32 0) rfl n] at r1;obtain ⟨h3,h4⟩:=r1;rcases h4 with ⟨h4,_⟩ | ⟨g,cap,cur,h4,h5,h6,h7,h8,h9,h10⟩
 ·cases h4
 ·cases h4;exact ⟨cur,h6,by simp;omega,by simpa using h10⟩
theorem uZ {ops:Array Oper} {o:Oper} {a:Act} {K:Act->World->Prop} {Q:Exit->Act->World->Prop} {E:Prop} {w:World} (hgd:o.guard=none) (s x:Operand)
  (ho:o.op=.call { callee:=.builtin .append,args:=#[s,x],argTypes:=#[27,27] }) (B:Nat) (v:Value) (xs:List Nat) (hs:a.eval s=v) (hown:bf w B v xs)
  (ad:Addr) (n c:Nat) (ys:List Nat) (hx:a.eval x=.slice (some ad) n c) (hu:ah w (.slice (some ad) n c) ys) (hl:xs.length+ys.length<=1099511627776) (hB:B<=w.heap.size)
  (h:∀ v' w',bf w' B v' (xs++ys)->w.grownBy w' v.ownBlock->K (a.put o.dst v') w'):if Region.wanted o (yielded ops a.tmps)=true then Oper.wp Tryz.prog o a w K Q else E:=by
 have hw:Region.wanted o (yielded ops a.tmps)=true:=by simp [Region.wanted,hgd]
 rw [if_pos hw];obtain ⟨i0,hi0,hz0,hz1,hz2⟩:=info_parts cI;obtain ⟨ad',c',he,⟨hc,hcn⟩,hl2,hwd,hcell⟩:=hu;injection he with he1 he2 he3
 subst he2 he3;subst he1;refine wp_append_own _ s x 27 ho B 70 i0 _ 1 4 Tryz.underlying27 hi0 hz0 hz1 hz2 rfl (by decide) v xs.length _ hs hown.1 ad ys.length c (ys.map fp) hx (by simp) ?_ ?_ (by simp [maxLen];omega) (by omega) hB ?_
 ·intro j u hj
  have hj':j<ys.length:=by
   rcases Nat.lt_or_ge j ys.length with h | h
   ·exact h
   ·rw [List.getElem?_eq_none (by simpa using h)] at hj;cases hj
  obtain ⟨b,o,h5,h6⟩:=hcell j hj';cases h5;simp [hj',fp] at hj;subst hj;rw [show ({ block:=b,off:=o }:Addr).add j=⟨b,o+j,none⟩ by unfold Addr.add;split <;> simp_all,h6];simp [List.getD_eq_getElem?_getD,hj']
 ·intro u hu;obtain ⟨y,_,rfl⟩:=List.mem_map.1 hu;rfl
 ·intro v' w' h5 h6 _;exact h v' w' ⟨by simpa using h5,by simp;omega,hown.2.2.app hwd⟩ h6
theorem Ar {xs:List Nat} {s:Nat} (hw:Wd xs) (hs:s<32):(nw (nv xs*2^s)).length<=xs.length+1:=by
 have h:2^s<=2^32:=Nat.pow_le_pow_right (by omega) (by omega);have e:(2:Nat)^32=4294967296:=rfl;rw [e] at h;refine aL.2 ?_;rw [Nat.pow_succ];exact Nat.lt_of_lt_of_le (Nat.mul_lt_mul_of_pos_right (dl hw) (Nat.two_pow_pos s)) (Nat.mul_le_mul_left _ h)
theorem iR (va vb:Value) (xs ys:List Nat) (w:World) (ha:ah w va xs) (hb:ah w vb ys) (hla:xs.length<=137438953472) (hlb:ys.length<=137438953472) (hA0:nv xs≠0) (hB0:nv ys≠0) :
  Calls Tryz.prog 225 #[va,vb] w fun e w'=>(∃ v1 v2,e=.returned (.tuple #[v1,v2,.int .i64 0])/\ah w' v1 (nw (nv xs / nv ys))/\ah w' v2 (nw (nv xs % nv ys)))/\af w w':=by
 have HTB:=ae (df vb ys w hb)
 obtain ⟨m,hm⟩:∃ m,(nw (nv ys)).length=m+1:=⟨(nw (nv ys)).length - 1,by
  have:(nw (nv ys)).length≠0:=fun h=>hB0 (cL.1 (List.eq_nil_of_length_eq_zero h))
  omega⟩
 have hm9:m<=137438953472:=by have:=cD hb.wd;omega
 obtain ⟨x,hx⟩:∃ x,x=(nw (nv ys)).getD m 0:=⟨_,rfl⟩;have hx9:x<4294967296:=by rw [hx];exact (dN _).getD _
 have hx0:x≠0:=by
  have h:=wY (nv ys);have hne:nw (nv ys)≠[]:=fun e=>by rw [e] at hm;simp at hm
  have h2:=h hne;rw [List.getLast_eq_getElem] at h2;rw [hx,List.getD_eq_getElem?_getD,show m=(nw (nv ys)).length - 1 by omega,List.getElem?_eq_getElem (by omega)];exact h2
 obtain ⟨s0,_,hs32,hxs1,hxs2⟩:=mW hx9 hx0;have HUA:=ae (fun W (hk:af w W)=>nu va xs s0 W (ha.kept hk) hs32 (by omega));have HAL:Hid ((nw (nv xs*2^s0)).length<=137438953473):=ae (Nat.le_trans (Ar ha.wd hs32) (by omega));obtain ⟨a0,c0,rfl⟩:=ha.shape;obtain ⟨a1,c1,rfl⟩:=hb.shape;obtain ⟨A,hA⟩:∃ A,A=nv xs:=⟨_,rfl⟩;obtain ⟨B,hB⟩:∃ B,B=nv ys:=⟨_,rfl⟩;rw [<-hB] at HTB hm hx⊢;rw [<-hA] at HUA HAL hA0⊢;have HA0:=ae hA0;obtain ⟨n,hn⟩:∃ n,n=m+1:=⟨_,rfl⟩;have HN:=ae hn;have HM:=ae hm;have HX:=ae hx;have HXS:=ae (And.intro hxs1 hxs2);have en:(n:Int) - 1=(m:Int):=by omega
 have hn0:((n:Int) == 0)=false:=by simp;omega
 have hmn:m<n:=by omega
 have hmn':(m:Int)<(n:Int):=by omega
 have hn9:n<=137438953473:=by omega
 generalize xs.length=lx at *;generalize ys.length=ly at *;clear hx0 hm hx ha hb hA hB hB0 hn hla hlb hxs1 hxs2;go_enter Tryz.func225,Tryz.ntmps225;go_wp2_with fail;refine HTB.out.mono ?_;rintro e w1 ⟨⟨v1,rfl,hv1⟩,hk1⟩;have H1:=ae hv1.at;have HK1:=ae hk1;obtain ⟨a2,c2,hv⟩:=hv1.at.shape;rw [HM.out,<-HN.out] at hv;subst hv;obtain ⟨b2,o2,rfl,hcx⟩:=H1.out.get m (by rw [HM.out];omega);rw [<-HX.out] at hcx;clear hv1 hk1;go_wp2_with fail;go_loopg [8] s0 (fun kx s8 wr=>∃ s:Nat,s8=.int .i64 s/\s<=s0/\s0 - s<=kx/\w1=wr)
 case atStart=>exact ⟨0,rfl,Nat.zero_le _,Nat.le_refl _,rfl⟩
 case round =>
  obtain ⟨s,rfl,hs,hkx,rfl⟩:=hrel;obtain ⟨y,hy⟩:∃ y,y=x*2^s:=⟨_,rfl⟩;have ey:(x:Int)*2^s=(y:Int):=by rw [hy];simp
  have hsn:¬ (s:Int)<0:=by omega
  by_cases hlt:s<s0
  ·have hy9:y<2147483648:=by
    have h1:2^s*2<=2^s0:=by rw [<-Nat.pow_succ];exact Nat.pow_le_pow_right (by omega) hlt
    have h2:x*(2^s*2)<=x*2^s0:=Nat.mul_le_mul_left _ h1;rw [<-Nat.mul_assoc] at h2;have:=HXS.out.2;omega
   have ew:IntKind.u32.wrap (y:Int)=(y:Int):=by rw [IntKind.wrap_u32];omega
   have ea:bits .and .u32 (y:Int) 2147483648=0:=by rw [sU y (by omega),if_neg (by omega)]
   clear hy;go_wp2_with fail;go_roundg (s0 - (s+1))
   case measure=>omega
   case rel=>exact ⟨s+1,by go_num,by omega,Nat.le_refl _,rfl⟩
  ·have hse:s=s0:=by omega
   subst hse;have hy1:2147483648<=y:=by rw [hy];exact HXS.out.1
   have hy9:y<4294967296:=by rw [hy];exact HXS.out.2
   have ew:IntKind.u32.wrap (y:Int)=(y:Int):=by rw [IntKind.wrap_u32];omega
   have ea:bits .and .u32 (y:Int) 2147483648=2147483648:=by rw [sU y hy9,if_pos hy1]
   clear hy;go_wp2_with fail;refine (HUA.out _ HK1.out).mono ?_;rintro e w3 ⟨⟨v3,rfl,hv3⟩,hk3⟩;have H3:=ae hv3;have H1':=ae (H1.out.kept hk3);have HK3:=ae (HK1.out.trans hk3);clear hv3 hk3 hcx ea ew;go_wp2_with fail;have hsh:=uD (N:=B*2^s) HM.out HX.out hs32 HXS.out.1 HXS.out.2 rfl;refine (nu _ (nw B) s _ H1'.out hs32 (by rw [HM.out];omega)).mono ?_;rintro e w4 ⟨⟨v4,rfl,hv4⟩,hk4⟩;rw [am] at hv4;obtain ⟨N,hNN⟩:∃ N,N=B*2^s:=⟨_,rfl⟩;rw [<-hNN] at hv4 hsh;have HNN:=ae hNN;have HSH:=ae hsh;have H4:=ae hv4;have H3':=ae (H3.out.kept hk4);have HK4:=ae (HK3.out.trans hk4);obtain ⟨A2,hA2⟩:∃ A2,A2=nw (A*2^s):=⟨_,rfl⟩;have HA2:=ae hA2;obtain ⟨la,hla⟩:∃ la,la=A2.length:=⟨_,rfl⟩;have HLA:=ae hla;have hla9:la<=549755813888:=by rw [hla,hA2];exact Nat.le_trans HAL.out (by omega)
   obtain ⟨a3,c3,hv3⟩:=H3'.out.shape;rw [<-hA2,<-hla] at hv3;subst hv3;rw [<-hA2] at H3';obtain ⟨kk,hkk⟩:∃ kk,kk=la+1 - n:=⟨_,rfl⟩;have hd9:(la:Int) - (n:Int)<549755813888:=by omega
   obtain ⟨d,hd⟩:∃ d,d=(la:Int) - (n:Int):=⟨_,rfl⟩;have hdk:d=(kk:Int) - 1\/(kk=0/\d<0/\-137438953473<=d):=by omega
   have HKK:=ae hkk;clear hv4 hk4 hsh hNN hA2 hla H3 H1' hkk;go_wp2_with fail;go_cut [9,10] (fun v9 v10 wx=>∃ (g:Nat) (Rs:List Nat),v9=.slice (some ⟨g,0,none⟩) la la/\Hid (w4.heap.size<=g/\ai wx g 70 ((List.replicate la 0).map fp))/\Hid (ah wx v10 Rs/\nv Rs=nv (A2.drop kk)/\Rs.length<=549755813888)/\Hid (af w4 wx))
   case first =>
    have hA2n:0<la:=by
     have h1:A2≠[]:=by
      rw [HA2.out];intro h;have h2:=cL.1 h;rcases Nat.mul_eq_zero.1 h2 with h3 | h3
      ·exact HA0.out h3
      ·have:=Nat.two_pow_pos s;omega
     rw [HLA.out];exact List.length_pos_iff.2 h1
    obtain ⟨b3,o3,rfl,_⟩:=H3'.out.get 0 (by rw [<-HLA.out];exact hA2n)
    have hcap:la<=c3:=by
     obtain ⟨_,_,h1,h2,_⟩:=H3'.out;injection h1 with h3 h4 h5
     rw [h4,h5];exact h2.1
    obtain ⟨mk,hmk⟩:∃ mk:World->World,∀ W,Sem.run Tryz.prog (Instr.makeSlice 27 (.int .i64 (la:Int)) (.int .i64 (la:Int))) W=Result.ok (.slice (some ⟨W.heap.size,0,none⟩) la la) (mk W)/\ai (mk W) W.heap.size 70 (List.replicate la (.int .u32 0))/\af W (mk W) :=
     ⟨fun W=>(mc W la hla9).choose,fun W=>(mc W la hla9).choose_spec⟩
    have HMK:=ae hmk;have hrunm:=fun W=>(HMK.out W).1
    have ew1:IntKind.i64.wrap ((la:Int) - (n:Int))=(la:Int) - (n:Int):=by rw [IntKind.wrap_i64];omega
    have ew2:IntKind.i64.wrap ((la:Int) - (n:Int)+1)=(la:Int) - (n:Int)+1:=by rw [IntKind.wrap_i64];omega
    have emx:max 0 ((la:Int) - (n:Int)+1)=(kk:Int):=by have:=HKK.out;omega
    have hkl:kk<=la:=by have:=HKK.out;omega
    have hkl':(kk:Int)<=(la:Int):=by omega
    have hk0:(0:Int)<=(kk:Int):=by omega
    have hkc:(kk:Int)<=(c3:Int):=by omega
    have hlc:(la:Int)<=(c3:Int):=by omega
    clear hmk hd hdk
    obtain ⟨ad,hite⟩:∃ ad:Addr,(if c3=kk then some (⟨b3,o3,none⟩:Addr) else some ⟨b3,o3+kk,none⟩)=some ad:=by
     by_cases h:c3=kk
     ·exact ⟨_,if_pos h⟩
     ·exact ⟨_,if_neg h⟩
    have HU:Hid (∀ W,af w4 W->ah W (.slice (some ad) (la - kk) (c3 - kk)) (A2.drop kk)):=ae fun W hk=>by
     by_cases h:c3=kk
     ·rw [if_pos h] at hite;have e1:la=kk:=by omega
      have e2:A2.drop kk=[]:=List.drop_eq_nil_of_le (by rw [<-HLA.out,e1];exact Nat.le_refl _);rw [e2,e1,Nat.sub_self];exact ⟨some ad,c3 - kk,rfl,⟨Nat.zero_le _,fun h=>by cases h⟩,by simp,Wd.nil,fun i hi=>by simp at hi⟩
     ·rw [if_neg h] at hite;injection hite with hite
      rw [<-hite];have:=(H3'.out.kept hk).drop kk (by rw [<-HLA.out];exact hkl);exact this
    have HITE:=ae hite;have HAL9:Hid ((A2.drop kk).length<=549755813888):=ae (by rw [List.length_drop,<-HLA.out];omega);clear hite hcap;go_region_law (refine uZ (by rfl) _ _ (by rfl) w4.heap.size _ [] (by rfl) (by first | exact ct _ _ (HMK.out w4.drew).2.2.size | exact (ct w4.drew w4.heap.size (Nat.le_refl _)).kept (HMK.out _).2.2 | exact ct w4.drew _ (Nat.le_refl _)) ad (la - kk) (c3 - kk) (A2.drop kk) (by exact congrArg (fun q=>Value.slice q (la - kk) (c3 - kk)) HITE.out) (HU.out _ (by first | exact ((af.refl w4).drew.trans (HMK.out _).2.2).alloc _ | exact ((af.refl w4).drew.alloc _).trans (HMK.out _).2.2 | exact (af.refl w4).drew.alloc _)) (by have:=HAL9.out;simp only [List.length_nil];omega) (by first | exact (((af.refl w4).drew.trans (HMK.out _).2.2).alloc _).size | exact (((af.refl w4).drew.alloc _).trans (HMK.out _).2.2).size | exact ((af.refl w4).drew.alloc _).size) ?_;intro v7 w7 h7 hg7;have O7:=ae h7;have G7:=ae hg7;clear h7 hg7);all_goals simp only [HITE.out]
    all_goals go_wp2_with fail
    all_goals go_meet
    all_goals first
     | exact ⟨_,_,rfl,ae ⟨Nat.le_refl _,cW (((HMK.out w4.drew).2.1.kept ((af.refl _).alloc (.cells #[] 70))).same (G7.out.block _ (by have:=(HMK.out w4.drew).2.1.lt;simp only [World.size_alloc];exact Nat.lt_succ_of_lt this) (by have:=(HMK.out w4.drew).2.1.lt;exact fun e=>Nat.ne_of_lt this (Option.some.inj e))))⟩,ae ⟨O7.out.at,by simp,by have:=HAL9.out;simpa using this⟩,ae ((((af.refl w4).drew.trans (HMK.out w4.drew).2.2).alloc (.cells #[] 70)).app (aW G7.out (ct (mk w4.drew) w4.heap.size (HMK.out w4.drew).2.2.size).1 ((((af.refl w4).drew.trans (HMK.out w4.drew).2.2).alloc (.cells #[] 70)).size)))⟩
     | exact ⟨_,_,rfl,ae ⟨Nat.le_succ _,cW (ai.same (w:=mk (w4.drew.alloc (.cells #[] 70))) (by have h:=(HMK.out (w4.drew.alloc (.cells #[] 70))).2.1;rw [World.size_alloc] at h;exact h) (G7.out.block _ (by have h:=(HMK.out (w4.drew.alloc (.cells #[] 70))).2.1.lt;rw [World.size_alloc] at h;exact h) (fun e=>Nat.succ_ne_self _ (Option.some.inj e))))⟩,ae ⟨O7.out.at,by simp,by have:=HAL9.out;simpa using this⟩,ae ((((af.refl w4).drew.alloc (.cells #[] 70)).trans (HMK.out _).2.2).app (aW G7.out ((ct w4.drew w4.heap.size (Nat.le_refl _)).kept (HMK.out _).2.2).1 ((((af.refl w4).drew.alloc (.cells #[] 70)).trans (HMK.out _).2.2).size)))⟩
     | exact ⟨_,_,rfl,ae ⟨Nat.le_trans (((af.refl w4).drew.alloc (.cells #[] 70)).size) G7.out.size,cW (HMK.out w7).2.1⟩,ae ⟨O7.out.at.kept (HMK.out w7).2.2,by simp,by have:=HAL9.out;simpa using this⟩,ae ((((af.refl w4).drew.alloc (.cells #[] 70)).app (aW G7.out (ct w4.drew w4.heap.size (Nat.le_refl _)).1 (((af.refl w4).drew.alloc (.cells #[] 70)).size))).trans (HMK.out w7).2.2)⟩
   case rest =>
    obtain ⟨g,Rs,rfl,HG,HRS,HKC⟩:=hcut;go_wp2_with fail;have HGW:=ae HG.out.1;have HST:Hid (nv (A2.drop kk)=N*nv ((List.replicate la 0).drop kk)+nv Rs/\nv Rs<N):=ae ⟨by rw [List.drop_replicate,jo,Nat.mul_zero,Nat.zero_add];exact HRS.out.2.1.symm,by rw [HRS.out.2.1,HKK.out,HLA.out,HN.out];exact uO (by rw [HA2.out];exact dN _) HSH.out.1⟩;have HRG:=ae HG.out.2;rw [<-hd];clear hd;go_loopg [10,11] kk (fun kx s10 s11 wr=>∃ (k:Nat) (j:Int) (Q Rs:List Nat),s11=.int .i64 j/\(j=(k:Int) - 1\/(k=0/\j<0))/\-549755813888<=j/\k<=kk/\k<=kx/\Hid (ai wr g 70 (Q.map fp))/\Hid (Q.length=la/\Wd Q)/\Hid (ah wr s10 Rs/\Rs.length<=549755813888)/\Hid (nv (A2.drop k)=N*nv (Q.drop k)+nv Rs/\nv Rs<N)/\Hid (af w4 wr))
    case atStart=>exact ⟨kk,d,List.replicate la 0,Rs,rfl,by omega,by omega,Nat.le_refl _,Nat.le_refl _,HRG,ae ⟨by simp,Wd.zeros _⟩,ae ⟨HRS.out.1,HRS.out.2.2⟩,HST,HKC⟩
    case round =>
     obtain ⟨k,j,Q,Rs2,rfl,hjk,hj9,hk,hkx,HQ,HQL,HR,HI,HK4r⟩:=hrel;have HK:=ae (HK4.out.trans HK4r.out);have HAB:=ae (And.intro (H3'.out.kept HK4r.out) (H4.out.kept HK4r.out));by_cases hk0:k=0
     ·have hjneg:j<0:=by omega
      have hjn:¬ (0:Int)<=j:=by omega
      subst hk0
      have hfin:A / B=nv Q/\nv Rs2 / 2^s=A % B:=by
       have h1:=HI.out.1;have h2:=HI.out.2;simp only [List.drop_zero] at h1;rw [HA2.out,am,HNN.out] at h1;rw [HNN.out] at h2;exact nD h1 h2
      have HFIN:=ae hfin
      have HQA:Hid (ah wr (.slice (some ⟨g,0,none⟩) la la) Q):=ae (by
       have h:=eN HQ.out (c:=la) (by rw [HQL.out.1];exact Nat.le_refl _) (by rw [HQL.out.1];omega) HQL.out.2;rw [HQL.out.1] at h;exact h)
      clear hfin;go_wp2_with fail;refine (df _ _ _ HQA.out).mono ?_;rintro e w8 ⟨⟨v8,rfl,hv8⟩,hk8⟩;go_wp2_with fail;refine (qs _ Rs2 s _ (HR.out.1.kept hk8) hs32).mono ?_;rintro e w9 ⟨⟨v9,rfl,hv9⟩,hk9⟩;have H8:=ae (hv8.at.kept hk9);have H9:=ae hv9;have HK9:=ae ((HK.out.trans hk8).trans hk9);clear hv8 hk8 hv9 hk9;go_wp2;go_ret3;exact ⟨⟨_,_,rfl,by rw [HFIN.out.1];exact H8.out,by rw [<-HFIN.out.2];exact H9.out⟩,HK9.out⟩
     ·obtain ⟨i,rfl⟩:∃ i,k=i+1:=⟨k - 1,by omega⟩;have hji:j=(i:Int):=by omega
      subst hji;have hila:i<la:=by have:=HKK.out;omega
      have hilA:i<A2.length:=by rw [<-HLA.out];exact hila
      obtain ⟨b5,o5,hb5,hcy⟩:=HAB.out.1.get i hilA;cases hb5;have hy9:=HAB.out.1.wd.getD i;obtain ⟨y,hy⟩:∃ y,y=A2.getD i 0:=⟨_,rfl⟩;rw [<-hy] at hcy hy9;obtain ⟨X,hX⟩:∃ X,X=y+4294967296*nv Rs2:=⟨_,rfl⟩;have HX1:Hid (nv ([y]++Rs2)=X):=ae (by rw [hX];rfl);have HXX:=ae hX;have HY:=ae hy;have hXN:X<N*4294967296:=by have:=HI.out.2;omega
      have HXN:=ae hXN;have hin:(i:Int)<(la:Int):=by omega
      have hi0:(0:Int)<=(i:Int):=by omega
      obtain ⟨ra,rc,hrv⟩:=HR.out.1.shape;clear hX hy hXN hrv hjk hk0;go_wp2_with (at_builtin;refine nQ rfl _ _ rfl wr.heap.size _ [y] rfl (xe wr _ y hy9 (Nat.le_refl _)) _ Rs2 rfl (HR.out.1.kept ((af.refl _).alloc _)) (by have:=HR.out.2;simp;omega) (by simp) ?_;intro v7 w7 h7 hb7;have O7:=ae h7;have HB7:=ae hb7;clear h7 hb7);have HK7:Hid (af wr w7):=ae (((af.refl wr).alloc _).app HB7.out);refine (df _ _ _ O7.out.at).mono ?_;rintro e w8 ⟨⟨v8,rfl,hv8⟩,hk8⟩;rw [HX1.out] at hv8;have H8:=ae hv8.at;have HK8:=ae (HK7.out.trans hk8);obtain ⟨hp,hhp⟩:∃ hp,hp=(nw X).getD n 0:=⟨_,rfl⟩;obtain ⟨hq,hhq⟩:∃ hq,hq=(nw X).getD m 0:=⟨_,rfl⟩;obtain ⟨top,htop⟩:∃ top,top=(nw N).getD m 0:=⟨_,rfl⟩;have hp9:hp<4294967296:=by rw [hhp];exact (dN X).getD _
      have hq9:hq<4294967296:=by rw [hhq];exact (dN X).getD _
      have htop9:top<4294967296:=by rw [htop];exact (dN N).getD _
      have htop1:2147483648<=top:=by rw [htop];exact HSH.out.2.1
      obtain ⟨hd2,hhd2⟩:∃ hd2,hd2=hp*4294967296+hq:=⟨_,rfl⟩;have eor:=gO hp hq hp9 hq9;rw [<-hhd2] at eor;have hg:=uN (N:=N) (X:=X) (m:=m) (head:=hd2) HSH.out.1 HSH.out.2.1 HXN.out (by rw [hhd2,hhp,hhq,HN.out]);rw [<-htop] at hg;obtain ⟨g0,hg0⟩:∃ g0,g0=hd2 / top:=⟨_,rfl⟩;rw [<-hg0] at hg;have eg0:(hd2:Int) / (top:Int)=(g0:Int):=by rw [hg0];simp
      have hd29:hd2<18446744073709551616:=by omega
      have hg09:g0<18446744073709551616:=Nat.lt_of_le_of_lt (by rw [hg0];exact Nat.div_le_self _ _) hd29;obtain ⟨g1,hg1⟩:∃ g1,g1=min g0 4294967295:=⟨_,rfl⟩;rw [<-hg1] at hg;have eg1:min (g0:Int) 4294967295=(g1:Int):=by omega
      have hg19:g1<4294967296:=by omega
      have HGE:=ae hg;have htop0:((top:Int) == 0)=false:=by simp;omega
      have W1:=ae (cC _ _ n w8 H8.out);have W2:=ae (cC _ _ m w8 H8.out);have W3:=ae (cC _ _ m w8 (HAB.out.2.kept HK8.out));rw [<-hhp] at W1;rw [<-hhq] at W2;rw [<-htop] at W3;clear hhp hhq htop hhd2 hg hg0 hg1 hv8 hk8 hcy;go_wp2_with fail;refine W1.out.mono ?_;rintro e w9 ⟨rfl,rfl⟩;go_wp2_with fail;refine W2.out.mono ?_;rintro e w9 ⟨rfl,rfl⟩;go_wp2_with fail;refine W3.out.mono ?_;rintro e w9 ⟨rfl,rfl⟩;go_wp2_with fail;refine (bP _ _ (nw N) [g1] _ ((HAB.out.2.kept HK8.out).kept ((af.refl _).alloc _)) (jC _ g1 hg19) (by rw [HSH.out.1];omega) (by simp)).mono ?_;rintro e w10 ⟨⟨v10,rfl,hv10⟩,hk10⟩;rw [am,show nv [g1]=g1 by simp [nv]] at hv10;have H10:=ae hv10;have HK10:=ae ((HK8.out.alloc _).trans hk10);have H8':=ae ((H8.out.kept ((af.refl _).alloc _)).kept hk10);clear hv10 hk10 eor eg0 eg1;go_wp2_with fail;go_loopg [12,13] g1 (fun kx s12 s13 wq=>∃ g:Nat,s12=.int .u64 g/\g<=kx/\g<4294967296/\Hid (ah wq s13 (nw (N*g)))/\Hid (X / N<=g)/\Hid (af wr wq)/\Hid (ah wq v8 (nw X)))
      case atStart=>exact ⟨g1,rfl,Nat.le_refl _,hg19,H10,HGE,HK10,H8'⟩
      case round =>
       obtain ⟨g2,rfl,hgk,hg29,HP2,HG2,HKQ,HX2⟩:=hrel;have hN0:0<N:=Nat.lt_of_le_of_lt (Nat.zero_le _) HI.out.2;obtain ⟨cm,hcm⟩:∃ cm,cm=cU (N*g2) X:=⟨_,rfl⟩;by_cases hle:N*g2<=X
       ·have hc:¬ 0<cm:=by have:=(rf (N*g2) X).2 hle;omega
        obtain ⟨hd1,hd3⟩:=xv hN0 HG2.out hle;have HD1:=ae hd1;have HD3:=ae hd3;have HCM:=ae hcm;have HLE:=ae hle;clear hcm hle hd1 hd3;go_wp2_with fail;refine (eX _ _ _ _ _ HP2.out HX2.out).mono ?_;rintro e w11 ⟨rfl,rfl⟩;rw [am,am,<-HCM.out];go_wp2_with fail;refine (lV _ _ _ _ _ HX2.out HP2.out (by rw [am,am];exact HLE.out)).mono ?_;rintro e w12 ⟨⟨v12,rfl,hv12⟩,hk12⟩;rw [am,am,HD3.out] at hv12;have hgl:g<w11.heap.size:=(HQ.out.kept HKQ.out).lt;have H12:=ae hv12;have HK12:=ae (HKQ.out.trans hk12);have HQ2:=ae (HQ.out.kept HK12.out);have hiq:i<Q.length:=by rw [HQL.out.1];exact hila
        have f:=HQ2.out.free i;have hst:=bl HQ2.out i hiq;have e5:IntKind.u32.wrap (g2:Int)=(g2:Int):=by rw [IntKind.wrap_u32];omega
        have HSTO:=ae ((hv12.older hgl ((aH.refl g w12).store i (.int .u32 (g2:Int)))).at);have HNX:Hid (nv (A2.drop i)=N*nv ((Q.set i g2).drop i)+nv (nw (X % N))/\nv (nw (X % N))<N):=ae ⟨by rw [am];exact xA HI.out.1 hilA hiq (by rw [HXX.out,HY.out]) HD1.out,by rw [am];exact Nat.mod_lt _ hN0⟩;have HLN:Hid ((nw (X % N)).length<=549755813888):=ae (Nat.le_trans (bT (Nat.le_of_lt (Nat.mod_lt X hN0))) (by rw [HSH.out.1];omega));clear hv12 hk12 hiq hgl;go_wp2_with fail;go_roundg i
        case measure=>omega
        case rel=>exact ⟨i,(i:Int) - 1,Q.set i g2,nw (X % N),by first | rfl | go_num,.inl rfl,by omega,by omega,Nat.le_refl _,ae (bi HQ2.out i g2),ae ⟨by rw [List.length_set];exact HQL.out.1,HQL.out.2.set i g2 hg29⟩,ae ⟨HSTO.out,HLN.out⟩,HNX,ae ((HK4r.out.trans HK12.out).store HG.out.1 _ _)⟩
       ·have hlt2:X<N*g2:=by omega
        have hc:0<cm:=by
         have h9:=rf (N*g2) X;rw [<-hcm] at h9;have h8:¬ cm<=0:=fun h=>hle (h9.1 h)
         omega
        obtain ⟨g',rfl,hge',hsub,hle'⟩:=xx hN0 HG2.out hlt2;have eg:((g'+1:Nat):Int) - 1=(g':Int):=by omega
        have HGE':=ae hge';have HSUB:=ae hsub;have HLE':=ae hle';have HCM:=ae hcm;have HV4:=ae (HAB.out.2.kept HKQ.out);clear hcm hle hlt2 hge' hsub hle';go_wp2_with fail;refine (eX _ _ _ _ _ HP2.out HX2.out).mono ?_;rintro e w11 ⟨rfl,rfl⟩;rw [am,am,<-HCM.out];go_wp2_with fail;refine (iS _ _ _ _ _ HP2.out HV4.out (by rw [am,am];exact HLE'.out)).mono ?_;rintro e w12 ⟨⟨v12,rfl,hv12⟩,hk12⟩;rw [am,am,HSUB.out] at hv12;have H12:=ae hv12;have HK12:=ae (HKQ.out.trans hk12);have HX12:=ae (HX2.out.kept hk12);clear hv12 hk12;go_wp2_with fail;go_roundg g'
        case measure=>omega
        case rel=>exact ⟨g',by first | rfl | go_num,Nat.le_refl _,by omega,H12,HGE',HK12,HX12⟩
theorem qA (v:Value) (xs:List Nat) (w:World) (hv:ah w v xs):Calls Tryz.prog 227 #[v] w fun e w'=>(∃ v',e=.returned v'/\ah w' v' (nw (nv xs)))/\af w w' :=
 (df v xs w hv).mono fun _ _ ⟨⟨v',h1,h2⟩,h3⟩=>⟨⟨v',h1,h2.at⟩,h3⟩
theorem lU (va vb:Value) (xs ys:List Nat) (w:World) (ha:ah w va xs) (hb:ah w vb ys) (hla:xs.length<=137438953472) (hlb:ys.length<=137438953472) (hA0:nv xs≠0) :
  Calls Tryz.prog 181 #[va,vb] w fun e w'=>(∃ v,e=.returned v/\ah w' v (nw (Nat.gcd (nv xs) (nv ys))))/\af w w':=by
 have HTA:=ae (fun W (hk:af w W)=>qA va xs W (ha.kept hk));have HTB:=ae (fun W (hk:af w W)=>qA vb ys W (hb.kept hk));obtain ⟨a0,c0,rfl⟩:=ha.shape;obtain ⟨a1,c1,rfl⟩:=hb.shape;have HLA:Hid ((nw (nv xs)).length<=137438953472):=ae (Nat.le_trans (cD ha.wd) hla);have HLB:Hid ((nw (nv ys)).length<=137438953472):=ae (Nat.le_trans (cD hb.wd) hlb);generalize nv xs=A at *;generalize nv ys=B at *;generalize xs.length=n0 at *;generalize ys.length=n1 at *;have HA0:=ae hA0;clear ha hb hla hlb hA0;go_enter Tryz.func181,Tryz.ntmps181;go_wp2_with fail;refine (HTA.out _ (af.refl _)).mono ?_;rintro e w1 ⟨⟨v1,rfl,hv1⟩,hk1⟩;go_wp2_with fail;refine (HTB.out _ hk1).mono ?_;rintro e w2 ⟨⟨v2,rfl,hv2⟩,hk2⟩;have H1:=ae (hv1.kept hk2);have H2:=ae hv2;have HK2:=ae (hk1.trans hk2);clear hv1 hv2 hk1 hk2;go_wp2_with fail;go_loopg [0,1] B (fun kx s0 s1 wr=>∃ (m n:Nat),Hid (ah wr s0 (nw m))/\Hid (ah wr s1 (nw n))/\n<=kx/\Hid (Nat.gcd m n=Nat.gcd A B/\m≠0)/\Hid ((nw m).length<=137438953472/\(nw n).length<=137438953472)/\Hid (af w wr))
 case atStart=>exact ⟨A,B,H1,H2,Nat.le_refl _,ae ⟨rfl,HA0.out⟩,ae ⟨HLA.out,HLB.out⟩,HK2⟩
 case round =>
  obtain ⟨m,n,HS0,HS1,hkx,HG,HL,HK⟩:=hrel;obtain ⟨a2,c2,rfl⟩:=HS0.out.shape;obtain ⟨a3,c3,rfl⟩:=HS1.out.shape;by_cases hn:n=0
  ·have HR:Hid (nw m=nw (Nat.gcd A B)):=ae (by rw [<-HG.out.1,hn,Nat.gcd_zero_right]);have hl:(nw n).length=0:=by rw [hn,bY];rfl
   rw [hl];clear hl hn;generalize hlm:(nw m).length=lm at *;have HLM:=ae hlm;clear hlm;go_wp2;go_ret;exact ⟨⟨_,rfl,by rw [<-HR.out,<-HLM.out] ;first | exact HS0.out | (rw [HLM.out];exact HS0.out)⟩,HK.out⟩
  ·have hl:(nw n).length≠0:=fun h=>hn (cL.1 (List.eq_nil_of_length_eq_zero h))
   have HDV:=ae (iR _ _ _ _ _ HS0.out HS1.out HL.out.1 HL.out.2 (by rw [am];exact HG.out.2) (by rw [am];exact hn));obtain ⟨r,hr⟩:∃ r,r=m % n:=⟨_,rfl⟩;have hrn:r<n:=by rw [hr];exact Nat.mod_lt _ (by omega)
   have HN:Hid (Nat.gcd n r=Nat.gcd A B/\n≠0):=ae ⟨by rw [<-HG.out.1,hr,Nat.gcd_comm n,<-Nat.gcd_rec,Nat.gcd_comm],hn⟩;have HLR:Hid ((nw n).length<=137438953472/\(nw r).length<=137438953472):=ae ⟨HL.out.2,Nat.le_trans (aL.2 (Nat.lt_trans hrn (aL.1 (Nat.le_refl _)))) HL.out.2⟩;have HR:=ae hr;obtain ⟨ln,hln⟩:∃ ln,ln=(nw n).length:=⟨_,rfl⟩;have hlp:(0:Int)<(ln:Int):=by omega
   have hlp2:0<ln:=by omega
   obtain ⟨lm,hlm⟩:∃ lm,lm=(nw m).length:=⟨_,rfl⟩;rw [<-hln,<-hlm] at HDV⊢;rw [<-hln] at HS1;clear hl hr hn hln hlm;go_wp2_with fail;refine HDV.out.mono ?_;rintro e w3 ⟨⟨v3,v4,rfl,hv3,hv4⟩,hk3⟩;rw [am,am,<-HR.out] at hv4;have H4:=ae hv4;have HS1':=ae (HS1.out.kept hk3);have HK3:=ae (HK.out.trans hk3);clear hv3 hv4 hk3;go_wp2_with fail;go_roundg r
   case measure=>omega
   case rel=>exact ⟨n,r,HS1',H4,Nat.le_refl _,HN,HLR,HK3⟩
theorem Ap (q:Rat):0<=eF q ↔ 0<=q:=by
 unfold eF;by_cases h0:q=0
 ·subst h0;simp
 ·rw [if_neg h0];by_cases h1:q<0
  ·rw [if_pos h1];constructor
   ·intro h;omega
   ·intro h;exact absurd h1 (Rat.not_lt.2 h)
  ·rw [if_neg h1];exact ⟨fun _=>Rat.not_lt.1 h1,fun _=>by omega⟩
theorem xO (q:Rat):eF q<=0 ↔ q<=0:=by
 unfold eF;by_cases h0:q=0
 ·subst h0;simp
 ·rw [if_neg h0];by_cases h1:q<0
  ·rw [if_pos h1];exact ⟨fun _=>Rat.le_of_lt h1,fun _=>by omega⟩
  ·rw [if_neg h1];constructor
   ·intro h;omega
   ·intro h;exact absurd (Rat.le_antisymm h (Rat.not_lt.1 h1)) h0
theorem zo {a:Int} {d:Nat} (hd:d≠0):0<=mkRat a d ↔ 0<=a:=by
 have h:(0:Int)<(d:Int):=by omega
 rw [<-Rat.divInt_ofNat];exact Rat.divInt_nonneg_iff_of_pos_right h
theorem zp {a:Int} {d:Nat} (hd:d≠0):mkRat a d<=0 ↔ a<=0:=by
 have h1:mkRat a d<=0 ↔ 0<=mkRat (-a) d:=by
  rw [<-Rat.neg_mkRat];constructor
  ·intro h;have:=Rat.neg_le_neg h;simpa using this
  ·intro h;have:=Rat.neg_le_neg h;simpa using this
 rw [h1,zo hd];omega
theorem wN {a:Int} {d:Nat} (hd:d≠0):mkRat a d - 1=mkRat (a - d) d:=by
 have h1:(1:Rat)=mkRat d d:=by
  rw [<-Rat.divInt_ofNat];exact (Rat.divInt_self' (by omega)).symm
 rw [h1,Rat.sub_eq_add_neg,Rat.neg_mkRat,Rat.mkRat_add_mkRat _ _ hd hd,<-Int.add_mul,Rat.mkRat_mul_right (by omega)];rfl
theorem qe {r:Rw} (hw:r.Ok):fi r=(br r&&(decide (0<=eF (al r))&&decide (eF (al r - ((1:Int):Rat))<=0))):=by
 have e1:(((1:Int):Rat))=1:=rfl;rw [e1];cases hv:br r with
 | false=>unfold fi;rw [hv];rfl
 | true =>
  unfold fi;rw [hv,Bool.true_and,Bool.true_and];have hok:=aG hw;by_cases hn:r.num=[]
  ·have hz:al r=0:=by
    unfold al ag;rw [if_neg (fun h=>h.2 hn)];simp [kU,nv,Rat.zero_mkRat]
   have h2:r.neg=false:=by
    unfold br at hv;by_cases hd:r.den=[]
    ·rw [if_pos ⟨hn,hd⟩] at hv;simpa using hv
    ·rw [if_neg (fun h=>hd h.2),hn] at hv;simp [bO] at hv
   rw [hz,h2,hn];have a1:eF 0=0:=rfl
   have a2:eF (0 - 1)<=0:=by
    have h1:mkRat 0 1 - 1=mkRat (0 - (1:Nat)) 1:=wN (by omega);rw [Rat.zero_mkRat] at h1;rw [h1];exact (xO _).2 ((zp (by omega)).2 (by omega))
   rw [a1,cz];simp [a2]
  ·have hp:ag r=(r.neg,r.num,r.den):=by unfold ag;rw [if_pos ⟨hv,hn⟩]
   rw [hp] at hok;simp only at hok
   have hn0:nv r.num≠0:=by
    intro h;have:=ti hok.1 hok.2.2.2.1;rw [h,bY] at this;exact hn this.symm
   have hr:al r=mkRat (sg r.neg (nv r.num)) (nv r.den):=by unfold al;rw [hp]
   have d1:decide (0<=eF (al r))=!r.neg:=by
    have h:0<=eF (al r) ↔ r.neg=false:=by
     rw [hr];refine (Ap _).trans ((zo hok.2.2.1).trans ?_);unfold sg;split
     ·rename_i h1;rw [h1];simp;omega
     ·rename_i h1
      have:r.neg=false:=by simpa using h1
      simp [this]
    rw [Bool.eq_iff_iff,decide_eq_true_iff,h];simp
   rw [d1];cases hg:r.neg with
   | true=>rfl
   | false =>
    simp only [Bool.not_false,Bool.true_and];refine decide_eq_decide.2 ?_;rw [hr,wN hok.2.2.1];refine Iff.symm ((xO _).trans ((zp hok.2.2.1).trans ?_));unfold sg;rw [hg,if_neg (by simp)];omega
theorem lO {xs:List Nat} {m:Nat} (h:xs.length=m+1):bO xs=!(((xs.getD m 0:Nat):Int) == 0):=by
 unfold bO;rw [h,Nat.add_sub_cancel];by_cases h2:xs.getD m 0=0
 ·rw [h2];simp
 ·have:(((xs.getD m 0:Nat):Int) == 0)=false:=by simp only [beq_eq_false_iff_ne,ne_eq];omega
  rw [this];simp only [bne,beq_eq_false_iff_ne.2 h2];simp
theorem jy (v:Value) (r:Rw) (w:World) (hv:RatAt w v r) (hs:r.Short 137438953472):Calls Tryz.prog 120 #[v] w fun e w'=>e=.returned (.bool (br r))/\af w w':=by
 obtain ⟨neg,num,den⟩:=r;obtain ⟨u1,u2,rfl,h1,h2⟩:=hv;obtain ⟨hs1,hs2⟩:=hs;simp only at h1 h2 hs1 hs2;obtain ⟨a1,c1,rfl⟩:=h1.shape;obtain ⟨a2,c2,rfl⟩:=h2.shape;obtain ⟨n1,hn1⟩:∃ n1,n1=num.length:=⟨_,rfl⟩;obtain ⟨n2,hn2⟩:∃ n2,n2=den.length:=⟨_,rfl⟩;have hl1:n1<=137438953472:=by omega
 have hl2:n2<=137438953472:=by omega
 rw [<-hn1] at h1⊢;rw [<-hn2] at h2⊢;have HK0:Hid (af w (w.alloc (.cells #[.bool neg,.slice a1 n1 c1,.slice a2 n2 c2] 29))):=ae ((af.refl w).alloc _);have e1n:n1=0->num=[]:=fun h=>List.eq_nil_of_length_eq_zero (hn1.symm.trans h)
 have e2n:n2=0->den=[]:=fun h=>List.eq_nil_of_length_eq_zero (hn2.symm.trans h)
 by_cases e1:n1=0
 ·by_cases e2:n2=0
  ·have hV:br ⟨neg,num,den⟩=!neg:=by unfold br;rw [if_pos ⟨e1n e1,e2n e2⟩]
   rw [hV];subst e1 e2;clear h1 h2 hn1 hn2 hV e1n e2n;go_enter Tryz.func120,Tryz.ntmps120;go_wp2_with fail;go_quiet (fail);go_wp2;go_ret;exact ⟨rfl,HK0.out.drewN _⟩
  ·have hV:br ⟨neg,num,den⟩=false:=by
    unfold br;rw [if_neg (fun h=>e2 (hn2.trans (congrArg List.length h.2))),e1n e1];simp [bO]
   rw [hV];have hb2:((n2:Int) == 0)=false:=by simp;exact e2
   subst e1;clear h1 h2 hn1 hn2 hV e1n e2n e2;go_enter Tryz.func120,Tryz.ntmps120;go_wp2_with fail;go_quiet (fail);go_wp2;go_ret;exact ⟨rfl,HK0.out.drewN _⟩
 ·by_cases e2:n2=0
  ·have hV:br ⟨neg,num,den⟩=false:=by
    unfold br;rw [if_neg (fun h=>e1 (hn1.trans (congrArg List.length h.1))),e2n e2];simp [bO]
   rw [hV];have hb1:((n1:Int) == 0)=false:=by simp;exact e1
   subst e2;clear h1 h2 hn1 hn2 hV e1n e2n e1;go_enter Tryz.func120,Tryz.ntmps120;go_wp2_with fail;go_quiet (fail);go_wp2;go_ret;exact ⟨rfl,HK0.out.drewN _⟩
  ·have hV:br ⟨neg,num,den⟩=(bO num&&bO den&&(Nat.gcd (nv num) (nv den) == 1)):=by unfold br;rw [if_neg (fun h=>e1 (hn1.trans (congrArg List.length h.1)))]
   rw [hV];have hb1:((n1:Int) == 0)=false:=by simp;exact e1
   have hb2:((n2:Int) == 0)=false:=by simp;exact e2
   obtain ⟨m1,hm1⟩:∃ m1,n1=m1+1:=⟨n1 - 1,by omega⟩;obtain ⟨m2,hm2⟩:∃ m2,n2=m2+1:=⟨n2 - 1,by omega⟩;have hp1:=lO (hn1.symm.trans hm1);have hp2:=lO (hn2.symm.trans hm2);have HGC:Hid (bO num=true->∀ W,af w W->Calls Tryz.prog 181 #[.slice a1 n1 c1,.slice a2 n2 c2] W fun e w'=>(∃ v,e=.returned v/\ah w' v (nw (Nat.gcd (nv num) (nv den))))/\af W w'):=ae (fun hpl W hk=>lU _ _ num den W (h1.kept hk) (h2.kept hk) hs1 hs2 (lJ h1.wd hpl));obtain ⟨b1,o1,rfl,hc1⟩:=h1.get m1 (by omega);obtain ⟨b2,o2,rfl,hc2⟩:=h2.get m2 (by omega);obtain ⟨x1,hx1⟩:∃ x1,x1=num.getD m1 0:=⟨_,rfl⟩;obtain ⟨x2,hx2⟩:∃ x2,x2=den.getD m2 0:=⟨_,rfl⟩;rw [<-hx1] at hc1 hp1;rw [<-hx2] at hc2 hp2;have d1:=fun k=>(HK0.out.drewN k).cell hc1
   have d2:=fun k=>(HK0.out.drewN k).cell hc2
   have t1:(n1:Int) - 1=(m1:Int):=by omega
   have t2:(n2:Int) - 1=(m2:Int):=by omega
   have q1:(m1:Int)<(n1:Int):=by omega
   have q2:(m2:Int)<(n2:Int):=by omega
   have q1':m1<n1:=by omega
   have q2':m2<n2:=by omega
   generalize bO num=p1 at *;generalize bO den=p2 at *;generalize Nat.gcd (nv num) (nv den)=g at *;obtain ⟨bg,hbg⟩:∃ bg,(g == 1)=bg:=⟨_,rfl⟩
   have HG1:Hid (∀ W v1,ah W v1 (nw g)->Calls Tryz.prog 180 #[v1] W fun e w'=>(∃ k:Nat,e=.returned (.int .i64 k)/\((k:Int) == 1)=bg)/\w'=W):=ae fun W v1 k1 =>
    (gE v1 _ W k1).mono fun _ _ ⟨⟨k,h3,h4⟩,h5⟩=>⟨⟨k,h3,by
     rw [am] at h4;rw [<-hbg];have:=h4.iff1;by_cases hg:g=1
     ·rw [this.2 hg,hg];rfl
     ·have hk:k≠1:=fun e=>hg (this.1 e)
      rw [show (g == 1)=false by simp;exact hg];simp only [beq_eq_false_iff_ne,ne_eq];omega⟩,h5⟩
   rw [hbg];obtain ⟨z1,hz1⟩:∃ z1,((x1:Int) == 0)=z1:=⟨_,rfl⟩;obtain ⟨z2,hz2⟩:∃ z2,((x2:Int) == 0)=z2:=⟨_,rfl⟩;have y1:((x1:Int) != 0)=!z1:=by simp only [bne,hz1]
   have y2:((x2:Int) != 0)=!z2:=by simp only [bne,hz2]
   rw [hz1] at hp1;rw [hz2] at hp2;subst hp1 hp2;clear h1 h2 hn1 hn2 hV e1n e2n e1 e2 hx1 hx2 hbg hm1 hm2 hs1 hs2;cases z1 with
   | true =>
    simp only [Bool.not_true] at y1⊢;go_enter Tryz.func120,Tryz.ntmps120;go_wp2_with fail;go_quiet (fail);go_wp2;go_ret;exact ⟨by simp,HK0.out.drewN _⟩
   | false =>
    have HGT:=ae (HGC.out rfl);simp only [Bool.not_false] at y1⊢;cases z2 with
    | true =>
     simp only [Bool.not_true] at y2⊢;go_enter Tryz.func120,Tryz.ntmps120;go_wp2_with fail;go_quiet (fail);go_wp2;go_ret;exact ⟨by simp,HK0.out.drewN _⟩
    | false =>
     simp only [Bool.not_false] at y2⊢;go_enter Tryz.func120,Tryz.ntmps120;go_wp2_with fail;go_quiet (fail)
     go_wp2_with (first
      | (go_at_call 181;(with_reducible refine (HGT.out _ (HK0.out.drewN _)).mono ?_);rintro e w2 ⟨⟨vg,rfl,hvg⟩,hk2⟩;have HVG:=ae hvg;have HK2:=ae ((HK0.out.drewN _).trans hk2);clear hvg hk2)
      | (go_at_call 180;(with_reducible refine (HG1.out _ _ HVG.out).mono ?_);rintro e w4 ⟨⟨kb,rfl,hkb⟩,rfl⟩))
     go_ret;exact ⟨by simp,HK2.out⟩
theorem bH (v:Value) (r:Rw) (w:World) (hv:RatAt w v r) (hs:r.Short 137438953472):Calls Tryz.prog 162 #[v] w fun e w'=>(∃ u1 u2,e=.returned (.tuple #[.bool (ag r).1,u1,u2])/\ah w' u1 (ag r).2.1/\ah w' u2 (ag r).2.2)/\af w w':=by
 have HVA:=ae (fun W (hk:af w W)=>jy v r W (hv.kept hk) hs);obtain ⟨neg,num,den⟩:=r;obtain ⟨u1,u2,rfl,h1,h2⟩:=hv;simp only at h1 h2;obtain ⟨a1,c1,rfl⟩:=h1.shape;obtain ⟨a2,c2,rfl⟩:=h2.shape;obtain ⟨n1,hn1⟩:∃ n1,n1=num.length:=⟨_,rfl⟩;obtain ⟨n2,hn2⟩:∃ n2,n2=den.length:=⟨_,rfl⟩;rw [<-hn1] at h1 HVA⊢;rw [<-hn2] at h2 HVA⊢;have H1:=ae h1;have H2:=ae h2;obtain ⟨w1,hw1⟩:∃ w1,w1=w.alloc (.cells #[.bool neg,.slice a1 n1 c1,.slice a2 n2 c2] 29):=⟨_,rfl⟩;have HR:Hid (ai w1 w.heap.size 29 [.bool neg,.slice a1 n1 c1,.slice a2 n2 c2]):=ae (by rw [hw1];exact ai.made w #[.bool neg,.slice a1 n1 c1,.slice a2 n2 c2] 29);have HK0:Hid (af w w1):=ae (by rw [hw1];exact (af.refl w).alloc _);have q0:=HR.out.cell (i:=0) (by simp);have q1:=HR.out.cell (i:=1) (by simp);have q2:=HR.out.cell (i:=2) (by simp);simp only [List.getElem_cons_succ,List.getElem_cons_zero] at q0 q1 q2;have HW1:=ae hw1;clear hw1;by_cases hg:br ⟨neg,num,den⟩=true/\num≠[]
 ·have hP:ag ⟨neg,num,den⟩=(neg,num,den):=by unfold ag;rw [if_pos hg]
  rw [hP];rw [hg.1] at HVA
  have hb1:((n1:Int) == 0)=false:=by
   have:n1≠0:=fun h=>hg.2 (List.eq_nil_of_length_eq_zero (hn1.symm.trans h))
   simp;exact this
  clear h1 h2 hP hg hn1 hn2 hs;go_enter Tryz.func162,Tryz.ntmps162;go_wp2_with fail;rw [<-HW1.out];refine (HVA.out _ HK0.out).mono ?_;rintro e w2 ⟨rfl,hk2⟩;have y0:=hk2.cell q0;have y1:=hk2.cell q1;have y2:=hk2.cell q2;have HK2:=ae (HK0.out.trans hk2);clear hk2 q0 q1 q2;go_wp2_with fail;go_quiet (fail);go_wp2;go_ret3;exact ⟨⟨_,_,rfl,H1.out.kept (HK2.out.drewN _),H2.out.kept (HK2.out.drewN _)⟩,HK2.out.drewN _⟩
 ·have hP:ag ⟨neg,num,den⟩=(false,[],[1]):=by unfold ag;rw [if_neg hg]
  rw [hP];by_cases hvv:br ⟨neg,num,den⟩=true
  ·have h0:n1=0:=by
    rw [hn1];by_cases h:num=[]
    ·rw [h];rfl
    ·exact absurd ⟨hvv,h⟩ hg
   rw [hvv] at HVA;subst h0;clear h1 h2 hP hg hn1 hn2 hs hvv;go_enter Tryz.func162,Tryz.ntmps162;go_wp2_with fail;rw [<-HW1.out];refine (HVA.out _ HK0.out).mono ?_;rintro e w2 ⟨rfl,hk2⟩;have y1:=hk2.cell q1;have HK2:=ae (HK0.out.trans hk2);clear hk2 q0 q1 q2;go_wp2;go_ret3;exact ⟨⟨_,_,rfl,ah.nil _,jC _ 1 (by omega)⟩,HK2.out.alloc _⟩
  ·have hvf:br ⟨neg,num,den⟩=false:=by simpa using hvv
   rw [hvf] at HVA;clear h1 h2 hP hg hn1 hn2 hs hvv hvf;go_enter Tryz.func162,Tryz.ntmps162;go_wp2_with fail;rw [<-HW1.out];refine (HVA.out _ HK0.out).mono ?_;rintro e w2 ⟨rfl,hk2⟩;have HK2:=ae (HK0.out.trans hk2);clear hk2 q0 q1 q2;go_wp2;go_ret3;exact ⟨⟨_,_,rfl,ah.nil _,jC _ 1 (by omega)⟩,HK2.out.alloc _⟩
theorem dB (neg:Bool) (va vb:Value) (xs ys:List Nat) (w:World) (ha:ah w va xs) (hb:ah w vb ys) (hla:xs.length<=137438953472) (hlb:ys.length<=137438953472) (hd:nv ys≠0) :
  Calls Tryz.prog 163 #[.bool neg,va,vb] w fun e w'=>(∃ v,e=.returned (.tuple #[v,.int .i64 0])/\RatAt w' v (fE neg (nv xs) (nv ys)))/\af w w':=by
 have HGL:Hid ((nw (Nat.gcd (nv xs) (nv ys))).length<=137438953472):=ae (Nat.le_trans (bT (Nat.le_of_dvd (by omega) (Nat.gcd_dvd_right _ _))) (Nat.le_trans (cD hb.wd) hlb));have HBD:=ae (fun W (hk:af w W)=>gE vb ys W (hb.kept hk));have HB:=ae (fun W (hk:af w W)=>gE va xs W (ha.kept hk));have HG:=ae (fun W (hk:af w W) (h0:nv xs≠0)=>lU va vb xs ys W (ha.kept hk) (hb.kept hk) hla hlb h0)
 have HD1:Hid (∀ W vg,af w W->ah W vg (nw (Nat.gcd (nv xs) (nv ys)))->nv xs≠0->Calls Tryz.prog 225 #[va,vg] W fun e w'=>(∃ v1 v2,e=.returned (.tuple #[v1,v2,.int .i64 0])/\ah w' v1 (nw (nv xs / Nat.gcd (nv xs) (nv ys))))/\af W w'):=ae fun W vg hk hg h0 =>
  (iR va vg xs _ W (ha.kept hk) hg hla (HGL.out) h0 (by rw [am];exact fun h=>hd (Nat.eq_zero_of_gcd_eq_zero_right h))).mono fun _ _ ⟨⟨v1,v2,h1,h2,_⟩,h3⟩=>⟨⟨v1,v2,h1,by rw [am] at h2;exact h2⟩,h3⟩
 have HD2:Hid (∀ W vg,af w W->ah W vg (nw (Nat.gcd (nv xs) (nv ys)))->Calls Tryz.prog 225 #[vb,vg] W fun e w'=>(∃ v1 v2,e=.returned (.tuple #[v1,v2,.int .i64 0])/\ah w' v1 (nw (nv ys / Nat.gcd (nv xs) (nv ys))))/\af W w'):=ae fun W vg hk hg =>
  (iR vb vg ys _ W (hb.kept hk) hg hlb (HGL.out) hd (by rw [am];exact fun h=>hd (Nat.eq_zero_of_gcd_eq_zero_right h))).mono fun _ _ ⟨⟨v1,v2,h1,h2,_⟩,h3⟩=>⟨⟨v1,v2,h1,by rw [am] at h2;exact h2⟩,h3⟩
 obtain ⟨a0,c0,rfl⟩:=ha.shape;obtain ⟨a1,c1,rfl⟩:=hb.shape;generalize xs.length=n0 at *;generalize ys.length=n1 at *;obtain ⟨w1,hw1⟩:∃ w1,w1=w.alloc (.cells #[.bool false,.slice none 0 0,.slice none 0 0] 29):=⟨_,rfl⟩;have HR:Hid (ai w1 w.heap.size 29 [.bool false,.slice none 0 0,.slice none 0 0]):=ae (by rw [hw1];exact ai.made w #[.bool false,.slice none 0 0,.slice none 0 0] 29);have HK0:Hid (af w w1):=ae (by rw [hw1];exact (af.refl w).alloc _);have HFX:Hid (a_ w1 w.heap.size [.bool false,.slice none 0 0,.slice none 0 0]):=ae (by rw [hw1];exact a_.made w #[.bool false,.slice none 0 0,.slice none 0 0] 29);have HW1:=ae hw1;have HD0:=ae hd;clear hw1 ha hb hla hlb hd;by_cases h0:nv xs=0
 ·have hF:fE neg (nv xs) (nv ys)=⟨false,[],[]⟩:=by unfold fE;rw [if_pos h0]
  rw [hF];have H0:=ae h0;clear hF h0;go_enter Tryz.func163,Tryz.ntmps163;go_wp2_with fail;rw [<-HW1.out];refine (HBD.out _ HK0.out).mono ?_;rintro e w2 ⟨⟨kd,rfl,hkd⟩,rfl⟩
  have hkd0:((kd:Int) == 0)=false:=by
   have:kd≠0:=fun h=>HD0.out (hkd.iff0.1 h)
   simp;exact this
  clear hkd;go_wp2_with fail;refine (HB.out _ HK0.out).mono ?_;rintro e w2 ⟨⟨k,rfl,hk⟩,rfl⟩;have hk0:k=0:=hk.iff0.2 H0.out;subst hk0;clear hk;have g0:=HR.out.cell (i:=0) (by simp);have g1:=HR.out.cell (i:=1) (by simp);have g2:=HR.out.cell (i:=2) (by simp);have f0:=HR.out.free 0;have f1:=HR.out.free 1;have f2:=HR.out.free 2;go_wp2;have hF:=(((HR.out.store 0 (.bool false)).store 1 (.slice none 0 0)).store 2 (.slice none 0 0));have y0:=hF.cell (i:=0) (by simp);have y1:=hF.cell (i:=1) (by simp);have y2:=hF.cell (i:=2) (by simp);simp only [List.set_cons_zero,List.set_cons_succ,List.getElem_cons_succ,List.getElem_cons_zero] at y0 y1 y2;refine bodyPost_ret (v:=.tuple #[.agg #[.bool false,.slice none 0 0,.slice none 0 0],.int .i64 0]) ?_ rfl ⟨⟨_,rfl,RatAt.zero _⟩,?_⟩
  ·simp [results,Tryz.results163,go_sem,y0,y1,y2]
  ·exact ((HK0.out.store (Nat.le_refl _) _ _).store (Nat.le_refl _) _ _).store (Nat.le_refl _) _ _
 ·have hF:fE neg (nv xs) (nv ys)=⟨neg,nw (nv xs / Nat.gcd (nv xs) (nv ys)),nw (nv ys / Nat.gcd (nv xs) (nv ys))⟩:=by unfold fE;rw [if_neg h0]
  rw [hF];have H0:=ae h0;clear hF h0;generalize nw (nv xs / Nat.gcd (nv xs) (nv ys))=P at *;generalize nw (nv ys / Nat.gcd (nv xs) (nv ys))=Q at *;generalize nw (Nat.gcd (nv xs) (nv ys))=G at *;go_enter Tryz.func163,Tryz.ntmps163;go_wp2_with fail;rw [<-HW1.out];refine (HBD.out _ HK0.out).mono ?_;rintro e w2 ⟨⟨kd,rfl,hkd⟩,rfl⟩
  have hkd0:((kd:Int) == 0)=false:=by
   have:kd≠0:=fun h=>HD0.out (hkd.iff0.1 h)
   simp;exact this
  clear hkd;go_wp2_with fail;refine (HB.out _ HK0.out).mono ?_;rintro e w2 ⟨⟨k,rfl,hk⟩,rfl⟩
  have hk0:((k:Int) == 0)=false:=by
   have:k≠0:=fun h=>H0.out (hk.iff0.1 h)
   simp;exact this
  clear hk;go_wp2_with fail;refine (HG.out _ HK0.out H0.out).mono ?_;rintro e w3 ⟨⟨v3,rfl,hv3⟩,hk3⟩;have HV3:=ae hv3;have HK3:=ae (HK0.out.trans hk3);have HR3:=ae (HR.out.kept hk3);have HFX3:=ae (HFX.out.kept hk3);clear hv3 hk3 hk0;go_wp2_with fail;refine (HD1.out _ _ HK3.out HV3.out H0.out).mono ?_;rintro e w4 ⟨⟨v4,v5,rfl,hv4⟩,hk4⟩;have HV4:=ae hv4;have HV3':=ae (HV3.out.kept hk4);have HK4:=ae (HK3.out.trans hk4);have HR4:=ae (HR3.out.kept hk4);have HFX4:=ae (HFX3.out.kept hk4);clear hv4 hk4;go_wp2_with fail;refine (HD2.out _ _ HK4.out HV3'.out).mono ?_;rintro e w5 ⟨⟨v6,v7,rfl,hv6⟩,hk5⟩;have HV6:=ae hv6;have HV4':=ae (HV4.out.kept hk5);have HK5:=ae (HK4.out.trans hk5);have HR5:=ae (HR4.out.kept hk5);have HFX5:=ae (HFX4.out.kept hk5);clear hv6 hk5;obtain ⟨a4,c4,rfl⟩:=HV4'.out.shape;obtain ⟨a6,c6,rfl⟩:=HV6.out.shape;have g0:=HR5.out.cell (i:=0) (by simp);have g1:=HR5.out.cell (i:=1) (by simp);have g2:=HR5.out.cell (i:=2) (by simp);have f0:=HR5.out.free 0;have f1:=HR5.out.free 1;have f2:=HR5.out.free 2;go_wp2;have hF:=(((HR5.out.store 0 (.bool neg)).store 1 (.slice a4 P.length c4)).store 2 (.slice a6 Q.length c6));have y0:=hF.cell (i:=0) (by simp);have y1:=hF.cell (i:=1) (by simp);have y2:=hF.cell (i:=2) (by simp);simp only [List.set_cons_zero,List.set_cons_succ,List.getElem_cons_succ,List.getElem_cons_zero] at y0 y1 y2
  have hO:=(((aH.refl w.heap.size w5).store 0 (.bool neg)).store 1 (.slice a4 P.length c4)).store 2 (.slice a6 Q.length c6);have z1:=HV4'.out.apart HFX5.out (by simp) hO;have z2:=HV6.out.apart HFX5.out (by simp) hO;refine bodyPost_ret (v:=.tuple #[.agg #[.bool neg,.slice a4 P.length c4,.slice a6 Q.length c6],.int .i64 0]) ?_ rfl ⟨⟨_,rfl,⟨_,_,rfl,z1,z2⟩⟩,?_⟩
  ·simp [results,Tryz.results163,go_sem,y0,y1,y2]
  ·exact ((HK5.out.store (Nat.le_refl _) _ _).store (Nat.le_refl _) _ _).store (Nat.le_refl _) _ _
theorem dA {w:World} {g:Nat} {T:TypeId} {v1 v2:Value} {r:Rw} (C:Obj) (hr:ai w g T [.bool false,.slice none 0 0,.slice none 0 0]) (hf:a_ w g [.bool false,.slice none 0 0,.slice none 0 0]) (h1:ah w v1 r.num) (h2:ah w v2 r.den) :
  ((((w.setCell ⟨g,0,none⟩ (.bool r.neg)).setCell ⟨g,1,none⟩ v1).setCell ⟨g,2,none⟩ v2).alloc C).cell? ⟨g,0,none⟩=some (.bool r.neg) /\
  ((((w.setCell ⟨g,0,none⟩ (.bool r.neg)).setCell ⟨g,1,none⟩ v1).setCell ⟨g,2,none⟩ v2).alloc C).cell? ⟨g,1,none⟩=some v1 /\
  ((((w.setCell ⟨g,0,none⟩ (.bool r.neg)).setCell ⟨g,1,none⟩ v1).setCell ⟨g,2,none⟩ v2).alloc C).cell? ⟨g,2,none⟩=some v2 /\
  RatAt ((((w.setCell ⟨g,0,none⟩ (.bool r.neg)).setCell ⟨g,1,none⟩ v1).setCell ⟨g,2,none⟩ v2).alloc C) (.agg #[.bool r.neg,v1,v2]) r:=by
 obtain ⟨y0,y1,y2,hra⟩:=az hr hf h1 h2;have hk:=(af.refl (((w.setCell ⟨g,0,none⟩ (.bool r.neg)).setCell ⟨g,1,none⟩ v1).setCell ⟨g,2,none⟩ v2)).alloc C;exact ⟨hk.cell y0,hk.cell y1,hk.cell y2,hra.kept hk⟩
theorem nt (n:Nat) (w:World) (hn:n<9223372036854775808):Calls Tryz.prog 224 #[.int .i64 n] w fun e w'=>(∃ v' xs,e=.returned v'/\ah w' v' xs/\nv xs=n/\xs.length=2)/\af w w':=by
 obtain ⟨x,hx⟩:∃ x,x=n % 4294967296:=⟨_,rfl⟩;obtain ⟨y,hy⟩:∃ y,y=n / 4294967296:=⟨_,rfl⟩;have hx9:x<4294967296:=by omega
 have hy9:y<4294967296:=by omega
 have HV:Hid (nv [x,y]=n):=ae (by simp [nv];omega);have e0:IntKind.u64.wrap (n:Int)=(n:Int):=by rw [IntKind.wrap_u64];omega
 have e1:IntKind.u32.wrap (n:Int)=(x:Int):=by rw [IntKind.wrap_u32];omega
 have e2:(n:Int) / 4294967296=(y:Int):=by omega
 have e3:IntKind.u32.wrap (y:Int)=(y:Int):=by rw [IntKind.wrap_u32];omega
 have hp:¬ (n:Int)<0:=by omega
 clear hx hy;go_enter Tryz.func224,Tryz.ntmps224;go_wp2;go_ret;exact ⟨⟨_,rfl,[x,y],qO w x y hx9 hy9,HV.out,rfl⟩,(af.refl _).alloc _⟩
theorem qu (n:Nat) (w:World) (hn:n<9223372036854775808):Calls Tryz.prog 161 #[.int .i64 n,.int .i64 1] w fun e w'=>(∃ v',e=.returned (.tuple #[v',.int .i64 0])/\RatAt w' v' (aj ((n:Int):Rat)))/\af w w':=by
 have HS1:=ae (fun W=>nt n W hn);have HS2:Hid (∀ W,Calls Tryz.prog 224 #[.int .i64 1] W fun e w'=>(∃ v' xs,e=.returned v'/\ah w' v' xs/\nv xs=1/\xs.length=2)/\af W w'):=ae fun W=>nt 1 W (by omega)
 obtain ⟨R,hR⟩:∃ R,R=aj ((n:Int):Rat):=⟨_,rfl⟩
 have HFO:Hid (∀ W u1 u2 xs ys,ah W u1 xs->ah W u2 ys->nv xs=n->nv ys=1->xs.length=2->ys.length=2->Calls Tryz.prog 163 #[.bool false,u1,u2] W fun e w'=>(∃ v,e=.returned (.tuple #[v,.int .i64 0])/\RatAt w' v R)/\af W w'):=ae fun W u1 u2 xs ys k1 k2 n1 n2 l1 l2=>by
  have h:=dB false u1 u2 xs ys W k1 k2 (by omega) (by omega) (by omega);rw [n1,n2,ci _ _ _ (by omega),show sg false n=(n:Int) from rfl,Rat.mkRat_one,<-hR] at h;exact h
 rw [<-hR];obtain ⟨w2,hw2⟩:∃ w2,w2=w.alloc (.cells #[.bool false,.slice none 0 0,.slice none 0 0] 29):=⟨_,rfl⟩;have HR:Hid (ai w2 w.heap.size 29 [.bool false,.slice none 0 0,.slice none 0 0]):=ae (by rw [hw2];exact ai.made w #[.bool false,.slice none 0 0,.slice none 0 0] 29);have HFX:Hid (a_ w2 w.heap.size [.bool false,.slice none 0 0,.slice none 0 0]):=ae (by rw [hw2];exact a_.made w #[.bool false,.slice none 0 0,.slice none 0 0] 29);have HK0:Hid (af w w2):=ae (by rw [hw2];exact (af.refl w).alloc _);have HW2:=ae hw2;have hn0:¬ (n:Int)<0:=by omega
 clear hw2 hR;go_enter Tryz.func161,Tryz.ntmps161;go_wp2_with fail;rw [<-HW2.out];refine (HS1.out _).mono ?_;rintro e w3 ⟨⟨v3,xs,rfl,hv3,hn3,hl3⟩,hk3⟩;have HV3:=ae hv3;have HN3:=ae (And.intro hn3 hl3);have HR3:=ae (HR.out.kept hk3);have HF3:=ae (HFX.out.kept hk3);have HK3:=ae (HK0.out.trans hk3);clear hv3 hk3 hn3 hl3;go_wp2_with fail;refine (HS2.out _).mono ?_;rintro e w4 ⟨⟨v4,ys,rfl,hv4,hn4,hl4⟩,hk4⟩;have HV4:=ae hv4;have HN4:=ae (And.intro hn4 hl4);have HV3':=ae (HV3.out.kept hk4);have HR4:=ae (HR3.out.kept hk4);have HF4:=ae (HF3.out.kept hk4);have HK4:=ae (HK3.out.trans hk4);clear hv4 hk4 hn4 hl4;go_wp2_with fail;refine (HFO.out _ _ _ _ _ HV3'.out HV4.out HN3.out.1 HN4.out.1 HN3.out.2 HN4.out.2).mono ?_;rintro e w10 ⟨⟨v10,rfl,hv10⟩,hk10⟩;have hr10:=HR4.out.kept hk10;have HF10:=ae (HF4.out.kept hk10);have HK10:=ae (HK4.out.trans hk10);obtain ⟨u7,u8,rfl,k7,k8⟩:=hv10;obtain ⟨a7,c7,rfl⟩:=k7.shape;obtain ⟨a8,c8,rfl⟩:=k8.shape;obtain ⟨y0,y1,y2,hra⟩:=az hr10 HF10.out k7 k8;have g0:=hr10.cell (i:=0) (by simp);have g1:=hr10.cell (i:=1) (by simp);have g2:=hr10.cell (i:=2) (by simp);have f0:=hr10.free 0;have f1:=hr10.free 1;have f2:=hr10.free 2;have HRA:=ae hra;have Y0:=ae y0;have Y1:=ae y1;have Y2:=ae y2;clear hra y0 y1 y2 k7 k8 hr10 hk10;generalize R.num.length=n7 at *
 generalize R.den.length=n8 at *;go_wp2;refine bodyPost_ret (v:=.tuple #[.agg #[.bool R.neg,.slice a7 n7 c7,.slice a8 n8 c8],.int .i64 0]) ?_ rfl ⟨⟨_,rfl,HRA.out⟩,?_⟩
 ·simp [results,Tryz.results161,go_sem,Y0.out,Y1.out,Y2.out]
 ·exact ((HK10.out.store (by omega) _ _).store (by omega) _ _).store (by omega) _ _
theorem nr (n:Nat) (w:World) (hn:n<9223372036854775808):Calls Tryz.prog 102 #[.int .i64 n] w fun e w'=>(∃ v',e=.returned v'/\RatAt w' v' (aj ((n:Int):Rat)))/\af w w':=by
 have HMA:=ae (fun W=>qu n W hn);generalize aj ((n:Int):Rat)=R at *;obtain ⟨w2,hw2⟩:∃ w2,w2=w.alloc (.cells #[.bool false,.slice none 0 0,.slice none 0 0] 29):=⟨_,rfl⟩;have HR:Hid (ai w2 w.heap.size 29 [.bool false,.slice none 0 0,.slice none 0 0]):=ae (by rw [hw2];exact ai.made w #[.bool false,.slice none 0 0,.slice none 0 0] 29);have HFX:Hid (a_ w2 w.heap.size [.bool false,.slice none 0 0,.slice none 0 0]):=ae (by rw [hw2];exact a_.made w #[.bool false,.slice none 0 0,.slice none 0 0] 29);have HK0:Hid (af w w2):=ae (by rw [hw2];exact (af.refl w).alloc _);have HW2:=ae hw2;clear hw2;go_enter Tryz.func102,Tryz.ntmps102;go_wp2_with fail;rw [<-HW2.out];refine (HMA.out _).mono ?_;rintro e w10 ⟨⟨v10,rfl,hv10⟩,hk10⟩;have hr10:=HR.out.kept hk10;have HF10:=ae (HFX.out.kept hk10);have HK10:=ae (HK0.out.trans hk10);obtain ⟨u7,u8,rfl,k7,k8⟩:=hv10;obtain ⟨a7,c7,rfl⟩:=k7.shape;obtain ⟨a8,c8,rfl⟩:=k8.shape;obtain ⟨y0,y1,y2,hra⟩:=dA (.cells #[.bool R.neg,.slice a7 R.num.length c7,.slice a8 R.den.length c8] 29) hr10 HF10.out k7 k8;have hlt:=hr10.lt;have HRA:=ae hra;have Y0:=ae y0;have Y1:=ae y1;have Y2:=ae y2;have g0:=hr10.cell (i:=0) (by simp);have g1:=hr10.cell (i:=1) (by simp);have g2:=hr10.cell (i:=2) (by simp);have f0:=hr10.free 0;have f1:=hr10.free 1;have f2:=hr10.free 2
 clear hra y0 y1 y2 k7 k8 hr10 hk10;generalize R.num.length=n7 at *;generalize R.den.length=n8 at *;go_wp2;refine bodyPost_ret (v:=.agg #[.bool R.neg,.slice a7 n7 c7,.slice a8 n8 c8]) ?_ rfl ⟨⟨_,rfl,HRA.out⟩,?_⟩
 ·simp [results,Tryz.results102,go_sem,Y0.out,Y1.out,Y2.out]
 ·exact (((HK10.out.store (by omega) _ _).store (by omega) _ _).store (by omega) _ _).alloc _
theorem sj (v:Value) (r:Rw) (w:World) (hv:RatAt w v r) (hs:r.Short 137438953472):Calls Tryz.prog 111 #[v] w fun e w'=>(∃ v',e=.returned v'/\RatAt w' v' (aj (- al r)))/\af w w':=by
 have HPA:=ae (fun W (hk:af w W)=>bH v r W (hv.kept hk) hs);have hok:=aG hv.ok;have hsh:=aI hs (by omega);obtain ⟨R,hR⟩:∃ R,R=aj (- al r):=⟨_,rfl⟩
 have HFO:Hid (∀ W u1 u2,ah W u1 (ag r).2.1->ah W u2 (ag r).2.2->Calls Tryz.prog 163 #[.bool (!(ag r).1),u1,u2] W fun e w'=>(∃ v,e=.returned (.tuple #[v,.int .i64 0])/\RatAt w' v R)/\af W w'):=ae fun W u1 u2 k1 k2=>by
  have h:=dB (!(ag r).1) u1 u2 _ _ W k1 k2 hsh.1 hsh.2 hok.2.2.1;rw [ci _ _ _ hok.2.2.1,jY,<-hR] at h;exact h
 rw [<-hR];obtain ⟨u1,u2,rfl,h1,h2⟩:=hv;obtain ⟨a1,c1,rfl⟩:=h1.shape;obtain ⟨a2,c2,rfl⟩:=h2.shape;obtain ⟨w2,hw2⟩:∃ w2,w2=(w.alloc (.cells #[.bool r.neg,.slice a1 r.num.length c1,.slice a2 r.den.length c2] 29)).alloc (.cells #[.bool false,.slice none 0 0,.slice none 0 0] 29):=⟨_,rfl⟩;have HM:=ae (jz w (.cells #[.bool r.neg,.slice a1 r.num.length c1,.slice a2 r.den.length c2] 29));rw [<-hw2] at HM;have HW2:=ae hw2;generalize (ag r).1=s at *;generalize (ag r).2.1=N at *;generalize (ag r).2.2=D at *;generalize r.num.length=n1 at *;generalize r.den.length=n2 at *;generalize r.neg=neg at *;clear hok hsh hR h1 h2 hs hw2;go_enter Tryz.func111,Tryz.ntmps111;go_wp2_with fail;rw [<-HW2.out];refine (HPA.out _ HM.out.2.2).mono ?_;rintro e w3 ⟨⟨u3,u4,rfl,hu3,hu4⟩,hk3⟩;have H3:=ae hu3;have H4:=ae hu4;have HR3:=ae (HM.out.1.kept hk3);have HF3:=ae (HM.out.2.1.kept hk3);have HK3:=ae (HM.out.2.2.trans hk3);clear hu3 hu4 hk3;go_wp2_with fail;refine (HFO.out _ _ _ H3.out H4.out).mono ?_;rintro e w4 ⟨⟨v4,rfl,hv4⟩,hk4⟩;have HV4:=ae hv4;have hr4:=HR3.out.kept hk4;have HR4:=ae hr4;have HF4:=ae (HF3.out.kept hk4);have HK4:=ae (HK3.out.trans hk4);obtain ⟨u5,u6,rfl,k5,k6⟩:=hv4;obtain ⟨a5,c5,rfl⟩:=k5.shape;obtain ⟨a6,c6,rfl⟩:=k6.shape;obtain ⟨y0,y1,y2,hra⟩:=dA (.cells #[.bool R.neg,.slice a5 R.num.length c5,.slice a6 R.den.length c6] 29) hr4 HF4.out k5 k6
 have hlt:=hr4.lt;have g0:=hr4.cell (i:=0) (by simp);have g1:=hr4.cell (i:=1) (by simp);have g2:=hr4.cell (i:=2) (by simp);have f0:=hr4.free 0;have f1:=hr4.free 1;have f2:=hr4.free 2;have HRA:=ae hra;have Y0:=ae y0;have Y1:=ae y1;have Y2:=ae y2;clear hra y0 y1 y2 k5 k6 hr4 hk4;generalize R.num.length=n5 at *;generalize R.den.length=n6 at *;go_wp2;refine bodyPost_ret (v:=.agg #[.bool R.neg,.slice a5 n5 c5,.slice a6 n6 c6]) ?_ rfl ⟨⟨_,rfl,HRA.out⟩,?_⟩
 ·simp [results,Tryz.results111,go_sem,Y0.out,Y1.out,Y2.out]
 ·exact (((HK4.out.store (by omega) _ _).store (by omega) _ _).store (by omega) _ _).alloc _
theorem kE (v:Value) (r:Rw) (w:World) (hv:RatAt w v r) (hs:r.Short 137438953472):Calls Tryz.prog 121 #[v] w fun e w'=>e=.returned (.int .i64 (eF (al r)))/\af w w':=by
 have HPA:=ae (fun W (hk:af w W)=>bH v r W (hv.kept hk) hs);obtain ⟨k1,k2⟩:=mf hv.ok;obtain ⟨u1,u2,rfl,h1,h2⟩:=hv;obtain ⟨a1,c1,rfl⟩:=h1.shape;obtain ⟨a2,c2,rfl⟩:=h2.shape;have HK0:Hid (af w (w.alloc (.cells #[.bool r.neg,.slice a1 r.num.length c1,.slice a2 r.den.length c2] 29))):=ae ((af.refl w).alloc _);obtain ⟨ln,hln⟩:∃ ln,ln=(ag r).2.1.length:=⟨_,rfl⟩;have HLN:=ae hln;rw [<-hln] at k1 k2;obtain ⟨S,hS⟩:∃ S,S=eF (al r):=⟨_,rfl⟩;rw [<-hS]
 have hSS:S=if ln=0 then 0 else if (ag r).1=true then -1 else 1:=by
  rw [hS];unfold eF;by_cases h:ln=0
  ·rw [if_pos h,if_pos (k1.1 h)]
  ·rw [if_neg h,if_neg (fun e=>h (k1.2 e))];by_cases h3:(ag r).1=true
   ·rw [if_pos h3,if_pos ((k2 h).1 h3)]
   ·rw [if_neg h3,if_neg (fun e=>h3 ((k2 h).2 e))]
 generalize (ag r).1=s at *;generalize (ag r).2.1=N at *;generalize (ag r).2.2=D at *;generalize r.num.length=n1 at *;generalize r.den.length=n2 at *;generalize r.neg=neg at *;clear h1 h2 hs hS k1 k2 hln;by_cases h0:ln=0
 ·have hE:S=0:=by rw [hSS,if_pos h0]
  subst h0 hE;clear hSS;go_enter Tryz.func121,Tryz.ntmps121;go_wp2_with fail;refine (HPA.out _ HK0.out).mono ?_;rintro e w3 ⟨⟨u3,u4,rfl,hu3,hu4⟩,hk3⟩;obtain ⟨a3,c3,rfl⟩:=hu3.shape;rw [<-HLN.out];have HK3:=ae (HK0.out.trans hk3);clear hu3 hu4 hk3;go_wp2;go_ret;exact ⟨rfl,HK3.out⟩
 ·have hb:((ln:Int) == 0)=false:=by simp;exact h0
  cases s with
  | true =>
   have hE:S=-1:=by rw [hSS,if_neg h0,if_pos rfl]
   subst hE;clear hSS h0;go_enter Tryz.func121,Tryz.ntmps121;go_wp2_with fail;refine (HPA.out _ HK0.out).mono ?_;rintro e w3 ⟨⟨u3,u4,rfl,hu3,hu4⟩,hk3⟩;obtain ⟨a3,c3,rfl⟩:=hu3.shape;rw [<-HLN.out];have HK3:=ae (HK0.out.trans hk3);clear hu3 hu4 hk3;go_wp2;go_ret;exact ⟨rfl,HK3.out⟩
  | false =>
   have hE:S=1:=by rw [hSS,if_neg h0,if_neg (by simp)]
   subst hE;clear hSS h0;go_enter Tryz.func121,Tryz.ntmps121;go_wp2_with fail;refine (HPA.out _ HK0.out).mono ?_;rintro e w3 ⟨⟨u3,u4,rfl,hu3,hu4⟩,hk3⟩;obtain ⟨a3,c3,rfl⟩:=hu3.shape;rw [<-HLN.out];have HK3:=ae (HK0.out.trans hk3);clear hu3 hu4 hk3;go_wp2;go_ret;exact ⟨rfl,HK3.out⟩
theorem f' (va vb:Value) (r s:Rw) (w:World) (ha:RatAt w va r) (hb:RatAt w vb s) (hr:r.Short 68719476736) (hs:s.Short 68719476736):Calls Tryz.prog 103 #[va,vb] w fun e w'=>(∃ v',e=.returned v'/\RatAt w' v' (aj (al r*al s)))/\af w w':=by
 have HP1:=ae (fun W (hk:af w W)=>bH va r W (ha.kept hk) ⟨Nat.le_trans hr.1 (by omega),Nat.le_trans hr.2 (by omega)⟩);have HP2:=ae (fun W (hk:af w W)=>bH vb s W (hb.kept hk) ⟨Nat.le_trans hs.1 (by omega),Nat.le_trans hs.2 (by omega)⟩);have hok1:=aG ha.ok;have hok2:=aG hb.ok;have hsh1:=aI hr (by omega);have hsh2:=aI hs (by omega);obtain ⟨R,hR⟩:∃ R,R=aj (al r*al s):=⟨_,rfl⟩;obtain ⟨x,hx⟩:∃ x,x=((ag r).1 != (ag s).1):=⟨_,rfl⟩
 have HFO:Hid (∀ W u1 u2,ah W u1 (nw (nv (ag r).2.1*nv (ag s).2.1))->ah W u2 (nw (nv (ag r).2.2*nv (ag s).2.2))->Calls Tryz.prog 163 #[.bool x,u1,u2] W fun e w'=>(∃ v,e=.returned (.tuple #[v,.int .i64 0])/\RatAt w' v R)/\af W w'):=ae fun W u1 u2 k1 k2=>by
  have hd:nv (ag r).2.2*nv (ag s).2.2≠0:=Nat.mul_ne_zero hok1.2.2.1 hok2.2.2.1;have h:=dB x u1 u2 _ _ W k1 k2 (Nat.le_trans (aF hok1.1 hok2.1) (by omega)) (Nat.le_trans (aF hok1.2.1 hok2.2.1) (by omega)) (by rw [am];exact hd);rw [am,am,ci _ _ _ hd,hx,jX,<-hR] at h;rw [hx];exact h
 have HM1:Hid (∀ W u1 u2,ah W u1 (ag r).2.1->ah W u2 (ag s).2.1->Calls Tryz.prog 164 #[u1,u2] W fun e w'=>(∃ v',e=.returned v'/\ah w' v' (nw (nv (ag r).2.1*nv (ag s).2.1)))/\af W w'):=ae fun W u1 u2 k1 k2=>bP u1 u2 _ _ W k1 k2 (by omega) (by omega)
 have HM2:Hid (∀ W u1 u2,ah W u1 (ag r).2.2->ah W u2 (ag s).2.2->Calls Tryz.prog 164 #[u1,u2] W fun e w'=>(∃ v',e=.returned v'/\ah w' v' (nw (nv (ag r).2.2*nv (ag s).2.2)))/\af W w'):=ae fun W u1 u2 k1 k2=>bP u1 u2 _ _ W k1 k2 (by omega) (by omega)
 rw [<-hR];obtain ⟨u1,u2,rfl,h1,h2⟩:=ha;obtain ⟨u3,u4,rfl,h3,h4⟩:=hb;obtain ⟨a1,c1,rfl⟩:=h1.shape;obtain ⟨a2,c2,rfl⟩:=h2.shape;obtain ⟨a3,c3,rfl⟩:=h3.shape;obtain ⟨a4,c4,rfl⟩:=h4.shape;obtain ⟨w2,hw2⟩:∃ w2,w2=((w.alloc (.cells #[.bool r.neg,.slice a1 r.num.length c1,.slice a2 r.den.length c2] 29)).alloc (.cells #[.bool s.neg,.slice a3 s.num.length c3,.slice a4 s.den.length c4] 29)).alloc (.cells #[.bool false,.slice none 0 0,.slice none 0 0] 29):=⟨_,rfl⟩;have HM:=ae (cM w (.cells #[.bool r.neg,.slice a1 r.num.length c1,.slice a2 r.den.length c2] 29) (.cells #[.bool s.neg,.slice a3 s.num.length c3,.slice a4 s.den.length c4] 29));rw [<-hw2] at HM;have hb2:=ai.made (w.alloc (.cells #[.bool r.neg,.slice a1 r.num.length c1,.slice a2 r.den.length c2] 29)) #[.bool s.neg,.slice a3 s.num.length c3,.slice a4 s.den.length c4] 29;simp only [World.size_alloc] at hb2;have HB2:Hid (ai w2 (w.heap.size+1) 29 [.bool s.neg,.slice a3 s.num.length c3,.slice a4 s.den.length c4]):=ae (by rw [hw2];exact hb2.kept ((af.refl _).alloc _));have HW2:=ae hw2;generalize nw (nv (ag r).2.1*nv (ag s).2.1)=NM at *;generalize nw (nv (ag r).2.2*nv (ag s).2.2)=DE at *;generalize (ag r).1=s1 at *;generalize (ag s).1=s2 at *;generalize (ag r).2.1=N at *;generalize (ag r).2.2=D at *;generalize (ag s).2.1=M at *;generalize (ag s).2.2=E at *;generalize r.num.length=n1 at *
 generalize r.den.length=n2 at *;generalize s.num.length=n3 at *;generalize s.den.length=n4 at *;generalize r.neg=neg1 at *;generalize s.neg=neg2 at *;have hx1:(s1 != s2)=x:=hx.symm;have hx2:(s1 == s2)=!x:=by rw [hx];simp [bne]
 clear hok1 hok2 hsh1 hsh2 hR h1 h2 h3 h4 hr hs hw2 hb2 hx;go_enter Tryz.func103,Tryz.ntmps103;go_wp2_with fail;rw [<-HW2.out];refine (HP1.out _ HM.out.2.2).mono ?_;rintro e w3 ⟨⟨u3,u4,rfl,hu3,hu4⟩,hk3⟩;have HN:=ae hu3;have HD:=ae hu4;have HR3:=ae (HM.out.1.kept hk3);have HF3:=ae (HM.out.2.1.kept hk3);have hb3:=HB2.out.kept hk3;have g0:=hb3.cell (i:=0) (by simp);have g1:=hb3.cell (i:=1) (by simp);have g2:=hb3.cell (i:=2) (by simp);simp only [List.getElem_cons_succ,List.getElem_cons_zero] at g0 g1 g2;have HK3:=ae (HM.out.2.2.trans hk3);clear hu3 hu4 hk3 hb3;go_wp2_with fail;refine (HP2.out _ HK3.out).mono ?_;rintro e w4 ⟨⟨u5,u6,rfl,hu5,hu6⟩,hk4⟩;have HN':=ae (HN.out.kept hk4);have HD':=ae (HD.out.kept hk4);have HMM:=ae hu5;have HEE:=ae hu6;have HR4:=ae (HR3.out.kept hk4);have HF4:=ae (HF3.out.kept hk4);have HK4:=ae (HK3.out.trans hk4);clear hu5 hu6 hk4 g0 g1 g2;go_wp2_with fail;refine (HM1.out _ _ _ HN'.out HMM.out).mono ?_;rintro e w5 ⟨⟨v5,rfl,hv5⟩,hk5⟩;have HV5:=ae hv5;have HR5:=ae (HR4.out.kept hk5);have HF5:=ae (HF4.out.kept hk5);have HD5:=ae (HD'.out.kept hk5);have HE5:=ae (HEE.out.kept hk5);have HK5:=ae (HK4.out.trans hk5);clear hv5 hk5;go_wp2_with fail;refine (HM2.out _ _ _ HD5.out HE5.out).mono ?_;rintro e w6 ⟨⟨v6,rfl,hv6⟩,hk6⟩;have HV6:=ae hv6;have HV5':=ae (HV5.out.kept hk6)
 have HR6:=ae (HR5.out.kept hk6);have HF6:=ae (HF5.out.kept hk6);have HK6:=ae (HK5.out.trans hk6);clear hv6 hk6;go_wp2_with fail
 first
  | (refine (HFO.out _ _ _ HV5'.out HV6.out).mono ?_)
  | (rw [hx1];refine (HFO.out _ _ _ HV5'.out HV6.out).mono ?_)
 rintro e w7 ⟨⟨v7,rfl,hv7⟩,hk7⟩;have HV7:=ae hv7;have hr7:=HR6.out.kept hk7;have HF7:=ae (HF6.out.kept hk7);have HK7:=ae (HK6.out.trans hk7);obtain ⟨u7,u8,rfl,k7,k8⟩:=hv7;obtain ⟨a7,c7,rfl⟩:=k7.shape;obtain ⟨a8,c8,rfl⟩:=k8.shape;obtain ⟨y0,y1,y2,hra⟩:=dA (.cells #[.bool R.neg,.slice a7 R.num.length c7,.slice a8 R.den.length c8] 29) hr7 HF7.out k7 k8;have hlt:=hr7.lt;have g0:=hr7.cell (i:=0) (by simp);have g1:=hr7.cell (i:=1) (by simp);have g2:=hr7.cell (i:=2) (by simp);have f0:=hr7.free 0;have f1:=hr7.free 1;have f2:=hr7.free 2;have HRA:=ae hra;have Y0:=ae y0;have Y1:=ae y1;have Y2:=ae y2;clear hra y0 y1 y2 k7 k8 hr7 hk7;generalize R.num.length=n7 at *;generalize R.den.length=n8 at *;go_wp2;refine bodyPost_ret (v:=.agg #[.bool R.neg,.slice a7 n7 c7,.slice a8 n8 c8]) ?_ rfl ⟨⟨_,rfl,HRA.out⟩,?_⟩
 ·simp [results,Tryz.results103,go_sem,Y0.out,Y1.out,Y2.out]
 ·exact (((HK7.out.store (by omega) _ _).store (by omega) _ _).store (by omega) _ _).alloc _
theorem mz (va vb:Value) (r s:Rw) (w:World) (ha:RatAt w va r) (hb:RatAt w vb s) (hr:r.Short 34359738368) (hs:s.Short 34359738368) (hss:(ag r).1=(ag s).1):Calls Tryz.prog 113 #[va,vb] w fun e w'=>(∃ v',e=.returned v'/\RatAt w' v' (aj (al r+al s)))/\af w w':=by
 have HP1:=ae (fun W (hk:af w W)=>bH va r W (ha.kept hk) ⟨Nat.le_trans hr.1 (by omega),Nat.le_trans hr.2 (by omega)⟩);have HP2:=ae (fun W (hk:af w W)=>bH vb s W (hb.kept hk) ⟨Nat.le_trans hs.1 (by omega),Nat.le_trans hs.2 (by omega)⟩);have hok1:=aG ha.ok;have hok2:=aG hb.ok;have hsh1:=aI hr (by omega);have hsh2:=aI hs (by omega);obtain ⟨R,hR⟩:∃ R,R=aj (al r+al s):=⟨_,rfl⟩;obtain ⟨p,hp⟩:∃ p,p=nv (ag r).2.1*nv (ag s).2.2:=⟨_,rfl⟩;obtain ⟨q,hq⟩:∃ q,q=nv (ag s).2.1*nv (ag r).2.2:=⟨_,rfl⟩;obtain ⟨d,hd⟩:∃ d,d=nv (ag r).2.2*nv (ag s).2.2:=⟨_,rfl⟩;have hlp:(nw p).length<=68719476736:=by rw [hp];exact Nat.le_trans (aF hok1.1 hok2.2.1) (by omega)
 have hlq:(nw q).length<=68719476736:=by rw [hq];exact Nat.le_trans (aF hok2.1 hok1.2.1) (by omega)
 have hld:(nw d).length<=68719476736:=by rw [hd];exact Nat.le_trans (aF hok1.2.1 hok2.2.1) (by omega)
 have hd0:d≠0:=by rw [hd];exact Nat.mul_ne_zero hok1.2.2.1 hok2.2.2.1
 have HAD:Hid (∀ W u1 u2,ah W u1 (nw p)->ah W u2 (nw q)->Calls Tryz.prog 174 #[u1,u2] W fun e w'=>(∃ v',e=.returned v'/\ah w' v' (nw (p+q)))/\af W w'):=ae fun W u1 u2 k1 k2=>by
  have h:=si u1 u2 _ _ W k1 k2 (by omega) (by omega);rw [am,am] at h;exact h
 have HFO:Hid (∀ W u1 u2,ah W u1 (nw (p+q))->ah W u2 (nw d)->Calls Tryz.prog 163 #[.bool (ag r).1,u1,u2] W fun e w'=>(∃ v,e=.returned (.tuple #[v,.int .i64 0])/\RatAt w' v R)/\af W w'):=ae fun W u1 u2 k1 k2=>by
  have h:=dB (ag r).1 u1 u2 _ _ W k1 k2 (Nat.le_trans (iO hlp hlq) (by omega)) (Nat.le_trans hld (by omega)) (by rw [am];exact hd0);rw [am,am,ci _ _ _ hd0,hp,hq,hd,jW ha.ok hb.ok hss,<-hR] at h;exact h
 have HM1:Hid (∀ W u1 u2,ah W u1 (ag r).2.1->ah W u2 (ag s).2.2->Calls Tryz.prog 164 #[u1,u2] W fun e w'=>(∃ v',e=.returned v'/\ah w' v' (nw p))/\af W w'):=ae fun W u1 u2 k1 k2=>by rw [hp];exact bP u1 u2 _ _ W k1 k2 (by omega) (by omega)
 have HM2:Hid (∀ W u1 u2,ah W u1 (ag s).2.1->ah W u2 (ag r).2.2->Calls Tryz.prog 164 #[u1,u2] W fun e w'=>(∃ v',e=.returned v'/\ah w' v' (nw q))/\af W w'):=ae fun W u1 u2 k1 k2=>by rw [hq];exact bP u1 u2 _ _ W k1 k2 (by omega) (by omega)
 have HM3:Hid (∀ W u1 u2,ah W u1 (ag r).2.2->ah W u2 (ag s).2.2->Calls Tryz.prog 164 #[u1,u2] W fun e w'=>(∃ v',e=.returned v'/\ah w' v' (nw d))/\af W w'):=ae fun W u1 u2 k1 k2=>by rw [hd];exact bP u1 u2 _ _ W k1 k2 (by omega) (by omega)
 rw [<-hR];obtain ⟨u1,u2,rfl,h1,h2⟩:=ha;obtain ⟨u3,u4,rfl,h3,h4⟩:=hb;obtain ⟨a1,c1,rfl⟩:=h1.shape;obtain ⟨a2,c2,rfl⟩:=h2.shape;obtain ⟨a3,c3,rfl⟩:=h3.shape;obtain ⟨a4,c4,rfl⟩:=h4.shape;obtain ⟨w2,hw2⟩:∃ w2,w2=((w.alloc (.cells #[.bool r.neg,.slice a1 r.num.length c1,.slice a2 r.den.length c2] 29)).alloc (.cells #[.bool s.neg,.slice a3 s.num.length c3,.slice a4 s.den.length c4] 29)).alloc (.cells #[.bool false,.slice none 0 0,.slice none 0 0] 29):=⟨_,rfl⟩;have HM:=ae (cM w (.cells #[.bool r.neg,.slice a1 r.num.length c1,.slice a2 r.den.length c2] 29) (.cells #[.bool s.neg,.slice a3 s.num.length c3,.slice a4 s.den.length c4] 29));rw [<-hw2] at HM;have hb2:=ai.made (w.alloc (.cells #[.bool r.neg,.slice a1 r.num.length c1,.slice a2 r.den.length c2] 29)) #[.bool s.neg,.slice a3 s.num.length c3,.slice a4 s.den.length c4] 29;simp only [World.size_alloc] at hb2;have HB2:Hid (ai w2 (w.heap.size+1) 29 [.bool s.neg,.slice a3 s.num.length c3,.slice a4 s.den.length c4]):=ae (by rw [hw2];exact hb2.kept ((af.refl _).alloc _));have HW2:=ae hw2;generalize nw d=DE at *;generalize (ag r).1=s1 at *;generalize (ag s).1=s2 at *;generalize (ag r).2.1=N at *;generalize (ag r).2.2=D at *;generalize (ag s).2.1=M at *;generalize (ag s).2.2=E at *;generalize r.num.length=n1 at *;generalize r.den.length=n2 at *;generalize s.num.length=n3 at *;generalize s.den.length=n4 at *
 generalize r.neg=neg1 at *;generalize s.neg=neg2 at *;clear hok1 hok2 hsh1 hsh2 hR h1 h2 h3 h4 hr hs hw2 hb2 hp hq hd hlp hlq hld hd0;have hb:(s1 == s2)=true:=by simpa using hss
 clear hss;go_enter Tryz.func113,Tryz.ntmps113;go_wp2_with fail;rw [<-HW2.out];refine (HP1.out _ HM.out.2.2).mono ?_;rintro e w3 ⟨⟨u3,u4,rfl,hu3,hu4⟩,hk3⟩;have HN:=ae hu3;have HD:=ae hu4;have HR3:=ae (HM.out.1.kept hk3);have HF3:=ae (HM.out.2.1.kept hk3);have hb3:=HB2.out.kept hk3;have g0:=hb3.cell (i:=0) (by simp);have g1:=hb3.cell (i:=1) (by simp);have g2:=hb3.cell (i:=2) (by simp);simp only [List.getElem_cons_succ,List.getElem_cons_zero] at g0 g1 g2;have HK3:=ae (HM.out.2.2.trans hk3);clear hu3 hu4 hk3 hb3;go_wp2_with fail;refine (HP2.out _ HK3.out).mono ?_;rintro e w4 ⟨⟨u5,u6,rfl,hu5,hu6⟩,hk4⟩;have HN':=ae (HN.out.kept hk4);have HD':=ae (HD.out.kept hk4);have HMM:=ae hu5;have HEE:=ae hu6;have HR4:=ae (HR3.out.kept hk4);have HF4:=ae (HF3.out.kept hk4);have HK4:=ae (HK3.out.trans hk4);clear hu5 hu6 hk4 g0 g1 g2;go_wp2_with fail;refine (HM1.out _ _ _ HN'.out HEE.out).mono ?_;rintro e w5 ⟨⟨v5,rfl,hv5⟩,hk5⟩;have HV5:=ae hv5;have HR5:=ae (HR4.out.kept hk5);have HF5:=ae (HF4.out.kept hk5);have HD5:=ae (HD'.out.kept hk5);have HE5:=ae (HEE.out.kept hk5);have HM5:=ae (HMM.out.kept hk5);have HK5:=ae (HK4.out.trans hk5);clear hv5 hk5;go_wp2_with fail;refine (HM2.out _ _ _ HM5.out HD5.out).mono ?_;rintro e w6 ⟨⟨v6,rfl,hv6⟩,hk6⟩;have HV6:=ae hv6;have HV5':=ae (HV5.out.kept hk6)
 have HR6:=ae (HR5.out.kept hk6);have HF6:=ae (HF5.out.kept hk6);have HD6:=ae (HD5.out.kept hk6);have HE6:=ae (HE5.out.kept hk6);have HK6:=ae (HK5.out.trans hk6);clear hv6 hk6;go_wp2_with fail;refine (HM3.out _ _ _ HD6.out HE6.out).mono ?_;rintro e w7 ⟨⟨v7,rfl,hv7⟩,hk7⟩;have HVD:=ae hv7;have HVP:=ae (HV5'.out.kept hk7);have HVQ:=ae (HV6.out.kept hk7);have HR7:=ae (HR6.out.kept hk7);have HF7:=ae (HF6.out.kept hk7);have HK7:=ae (HK6.out.trans hk7);clear hv7 hk7;go_wp2_with fail;refine (HAD.out _ _ _ HVP.out HVQ.out).mono ?_;rintro e w9 ⟨⟨v9,rfl,hv9⟩,hk9⟩;have HVD8:=HVD;have HR8:=HR7;have HF8:=HF7;have HK8:=HK7;have HV9:=ae hv9;have HVD9:=ae (HVD8.out.kept hk9);have HR9:=ae (HR8.out.kept hk9);have HF9:=ae (HF8.out.kept hk9);have HK9:=ae (HK8.out.trans hk9);clear hv9 hk9;go_wp2_with fail;refine (HFO.out _ _ _ HV9.out HVD9.out).mono ?_;rintro e w10 ⟨⟨v10,rfl,hv10⟩,hk10⟩;have hr10:=HR9.out.kept hk10;have HF10:=ae (HF9.out.kept hk10);have HK10:=ae (HK9.out.trans hk10);obtain ⟨u7,u8,rfl,k7,k8⟩:=hv10;obtain ⟨a7,c7,rfl⟩:=k7.shape;obtain ⟨a8,c8,rfl⟩:=k8.shape;obtain ⟨y0,y1,y2,hra⟩:=dA (.cells #[.bool R.neg,.slice a7 R.num.length c7,.slice a8 R.den.length c8] 29) hr10 HF10.out k7 k8;have hlt:=hr10.lt;have g0:=hr10.cell (i:=0) (by simp);have g1:=hr10.cell (i:=1) (by simp)
 have g2:=hr10.cell (i:=2) (by simp);have f0:=hr10.free 0;have f1:=hr10.free 1;have f2:=hr10.free 2;have HRA:=ae hra;have Y0:=ae y0;have Y1:=ae y1;have Y2:=ae y2;clear hra y0 y1 y2 k7 k8 hr10 hk10;generalize R.num.length=n7 at *;generalize R.den.length=n8 at *;go_wp2;refine bodyPost_ret (v:=.agg #[.bool R.neg,.slice a7 n7 c7,.slice a8 n8 c8]) ?_ rfl ⟨⟨_,rfl,HRA.out⟩,?_⟩
 ·simp [results,Tryz.results113,go_sem,Y0.out,Y1.out,Y2.out]
 ·exact (((HK10.out.store (by omega) _ _).store (by omega) _ _).store (by omega) _ _).alloc _
theorem qp (va vb:Value) (r s:Rw) (w:World) (ha:RatAt w va r) (hb:RatAt w vb s) (hr:r.Short 34359738368) (hs:s.Short 34359738368) (hss:(ag r).1≠(ag s).1) (hle:nv (ag s).2.1*nv (ag r).2.2<=nv (ag r).2.1*nv (ag s).2.2):Calls Tryz.prog 113 #[va,vb] w fun e w'=>(∃ v',e=.returned v'/\RatAt w' v' (aj (al r+al s)))/\af w w':=by
 have HP1:=ae (fun W (hk:af w W)=>bH va r W (ha.kept hk) ⟨Nat.le_trans hr.1 (by omega),Nat.le_trans hr.2 (by omega)⟩);have HP2:=ae (fun W (hk:af w W)=>bH vb s W (hb.kept hk) ⟨Nat.le_trans hs.1 (by omega),Nat.le_trans hs.2 (by omega)⟩);have hok1:=aG ha.ok;have hok2:=aG hb.ok;have hsh1:=aI hr (by omega);have hsh2:=aI hs (by omega);obtain ⟨R,hR⟩:∃ R,R=aj (al r+al s):=⟨_,rfl⟩;obtain ⟨p,hp⟩:∃ p,p=nv (ag r).2.1*nv (ag s).2.2:=⟨_,rfl⟩;obtain ⟨q,hq⟩:∃ q,q=nv (ag s).2.1*nv (ag r).2.2:=⟨_,rfl⟩;obtain ⟨d,hd⟩:∃ d,d=nv (ag r).2.2*nv (ag s).2.2:=⟨_,rfl⟩;have hlp:(nw p).length<=68719476736:=by rw [hp];exact Nat.le_trans (aF hok1.1 hok2.2.1) (by omega)
 have hlq:(nw q).length<=68719476736:=by rw [hq];exact Nat.le_trans (aF hok2.1 hok1.2.1) (by omega)
 have hld:(nw d).length<=68719476736:=by rw [hd];exact Nat.le_trans (aF hok1.2.1 hok2.2.1) (by omega)
 have hd0:d≠0:=by rw [hd];exact Nat.mul_ne_zero hok1.2.2.1 hok2.2.2.1
 rw [<-hp,<-hq] at hle
 have HCM:Hid (∀ W u1 u2,ah W u1 (nw p)->ah W u2 (nw q)->Calls Tryz.prog 175 #[u1,u2] W fun e w'=>e=.returned (.int .i64 (cU p q))/\af W w'):=ae fun W u1 u2 k1 k2=>by
  have h:=eX u1 u2 _ _ W k1 k2;rw [am,am] at h;exact h.mono fun _ _ ⟨h1,h2⟩=>⟨h1,by rw [h2];exact af.refl _⟩
 have HSU:Hid (∀ W u1 u2,ah W u1 (nw p)->ah W u2 (nw q)->Calls Tryz.prog 176 #[u1,u2] W fun e w'=>(∃ v',e=.returned (.tuple #[v',.int .i64 0])/\ah w' v' (nw (p - q)))/\af W w'):=ae fun W u1 u2 k1 k2=>by
  have h:=iS u1 u2 _ _ W k1 k2 (by rw [am,am];exact hle);rw [am,am] at h;exact h
 obtain ⟨cm,hcm⟩:∃ cm,cm=cU p q:=⟨_,rfl⟩;rw [<-hcm] at HCM
 have hcm0:¬ cm<0:=by
  rw [hcm];rcases Nat.lt_or_ge q p with h | h
  ·rw [eJ h];omega
  ·rw [fe (by omega)];omega
 have HFO:Hid (∀ W u1 u2,ah W u1 (nw (p - q))->ah W u2 (nw d)->Calls Tryz.prog 163 #[.bool (ag r).1,u1,u2] W fun e w'=>(∃ v,e=.returned (.tuple #[v,.int .i64 0])/\RatAt w' v R)/\af W w'):=ae fun W u1 u2 k1 k2=>by
  have h:=dB (ag r).1 u1 u2 _ _ W k1 k2 (Nat.le_trans (bT (Nat.sub_le p q)) (by omega)) (Nat.le_trans hld (by omega)) (by rw [am];exact hd0);rw [am,am,ci _ _ _ hd0,hp,hq,hd,j_ ha.ok hb.ok hss (by rw [hp,hq] at hle;exact hle),<-hR] at h;exact h
 have HM1:Hid (∀ W u1 u2,ah W u1 (ag r).2.1->ah W u2 (ag s).2.2->Calls Tryz.prog 164 #[u1,u2] W fun e w'=>(∃ v',e=.returned v'/\ah w' v' (nw p))/\af W w'):=ae fun W u1 u2 k1 k2=>by rw [hp];exact bP u1 u2 _ _ W k1 k2 (by omega) (by omega)
 have HM2:Hid (∀ W u1 u2,ah W u1 (ag s).2.1->ah W u2 (ag r).2.2->Calls Tryz.prog 164 #[u1,u2] W fun e w'=>(∃ v',e=.returned v'/\ah w' v' (nw q))/\af W w'):=ae fun W u1 u2 k1 k2=>by rw [hq];exact bP u1 u2 _ _ W k1 k2 (by omega) (by omega)
 have HM3:Hid (∀ W u1 u2,ah W u1 (ag r).2.2->ah W u2 (ag s).2.2->Calls Tryz.prog 164 #[u1,u2] W fun e w'=>(∃ v',e=.returned v'/\ah w' v' (nw d))/\af W w'):=ae fun W u1 u2 k1 k2=>by rw [hd];exact bP u1 u2 _ _ W k1 k2 (by omega) (by omega)
 rw [<-hR];obtain ⟨u1,u2,rfl,h1,h2⟩:=ha;obtain ⟨u3,u4,rfl,h3,h4⟩:=hb;obtain ⟨a1,c1,rfl⟩:=h1.shape;obtain ⟨a2,c2,rfl⟩:=h2.shape;obtain ⟨a3,c3,rfl⟩:=h3.shape;obtain ⟨a4,c4,rfl⟩:=h4.shape;obtain ⟨w2,hw2⟩:∃ w2,w2=((w.alloc (.cells #[.bool r.neg,.slice a1 r.num.length c1,.slice a2 r.den.length c2] 29)).alloc (.cells #[.bool s.neg,.slice a3 s.num.length c3,.slice a4 s.den.length c4] 29)).alloc (.cells #[.bool false,.slice none 0 0,.slice none 0 0] 29):=⟨_,rfl⟩;have HM:=ae (cM w (.cells #[.bool r.neg,.slice a1 r.num.length c1,.slice a2 r.den.length c2] 29) (.cells #[.bool s.neg,.slice a3 s.num.length c3,.slice a4 s.den.length c4] 29));rw [<-hw2] at HM;have hb2:=ai.made (w.alloc (.cells #[.bool r.neg,.slice a1 r.num.length c1,.slice a2 r.den.length c2] 29)) #[.bool s.neg,.slice a3 s.num.length c3,.slice a4 s.den.length c4] 29;simp only [World.size_alloc] at hb2;have HB2:Hid (ai w2 (w.heap.size+1) 29 [.bool s.neg,.slice a3 s.num.length c3,.slice a4 s.den.length c4]):=ae (by rw [hw2];exact hb2.kept ((af.refl _).alloc _));have HW2:=ae hw2;generalize nw d=DE at *;generalize (ag r).1=s1 at *;generalize (ag s).1=s2 at *;generalize (ag r).2.1=N at *;generalize (ag r).2.2=D at *;generalize (ag s).2.1=M at *;generalize (ag s).2.2=E at *;generalize r.num.length=n1 at *;generalize r.den.length=n2 at *;generalize s.num.length=n3 at *;generalize s.den.length=n4 at *
 generalize r.neg=neg1 at *;generalize s.neg=neg2 at *;clear hok1 hok2 hsh1 hsh2 hR h1 h2 h3 h4 hr hs hw2 hb2 hp hq hd hlp hlq hld hd0;have hb:(s1 == s2)=false:=by simpa using hss
 clear hss hcm hle;go_enter Tryz.func113,Tryz.ntmps113;go_wp2_with fail;rw [<-HW2.out];refine (HP1.out _ HM.out.2.2).mono ?_;rintro e w3 ⟨⟨u3,u4,rfl,hu3,hu4⟩,hk3⟩;have HN:=ae hu3;have HD:=ae hu4;have HR3:=ae (HM.out.1.kept hk3);have HF3:=ae (HM.out.2.1.kept hk3);have hb3:=HB2.out.kept hk3;have g0:=hb3.cell (i:=0) (by simp);have g1:=hb3.cell (i:=1) (by simp);have g2:=hb3.cell (i:=2) (by simp);simp only [List.getElem_cons_succ,List.getElem_cons_zero] at g0 g1 g2;have HK3:=ae (HM.out.2.2.trans hk3);clear hu3 hu4 hk3 hb3;go_wp2_with fail;refine (HP2.out _ HK3.out).mono ?_;rintro e w4 ⟨⟨u5,u6,rfl,hu5,hu6⟩,hk4⟩;have HN':=ae (HN.out.kept hk4);have HD':=ae (HD.out.kept hk4);have HMM:=ae hu5;have HEE:=ae hu6;have HR4:=ae (HR3.out.kept hk4);have HF4:=ae (HF3.out.kept hk4);have HK4:=ae (HK3.out.trans hk4);clear hu5 hu6 hk4 g0 g1 g2;go_wp2_with fail;refine (HM1.out _ _ _ HN'.out HEE.out).mono ?_;rintro e w5 ⟨⟨v5,rfl,hv5⟩,hk5⟩;have HV5:=ae hv5;have HR5:=ae (HR4.out.kept hk5);have HF5:=ae (HF4.out.kept hk5);have HD5:=ae (HD'.out.kept hk5);have HE5:=ae (HEE.out.kept hk5);have HM5:=ae (HMM.out.kept hk5);have HK5:=ae (HK4.out.trans hk5);clear hv5 hk5;go_wp2_with fail;refine (HM2.out _ _ _ HM5.out HD5.out).mono ?_;rintro e w6 ⟨⟨v6,rfl,hv6⟩,hk6⟩;have HV6:=ae hv6;have HV5':=ae (HV5.out.kept hk6)
 have HR6:=ae (HR5.out.kept hk6);have HF6:=ae (HF5.out.kept hk6);have HD6:=ae (HD5.out.kept hk6);have HE6:=ae (HE5.out.kept hk6);have HK6:=ae (HK5.out.trans hk6);clear hv6 hk6;go_wp2_with fail;refine (HM3.out _ _ _ HD6.out HE6.out).mono ?_;rintro e w7 ⟨⟨v7,rfl,hv7⟩,hk7⟩;have HVD:=ae hv7;have HVP:=ae (HV5'.out.kept hk7);have HVQ:=ae (HV6.out.kept hk7);have HR7:=ae (HR6.out.kept hk7);have HF7:=ae (HF6.out.kept hk7);have HK7:=ae (HK6.out.trans hk7);clear hv7 hk7;go_wp2_with fail;refine (HCM.out _ _ _ HVP.out HVQ.out).mono ?_;rintro e w8 ⟨rfl,hk8⟩;have HVD8:=ae (HVD.out.kept hk8);have HVP8:=ae (HVP.out.kept hk8);have HVQ8:=ae (HVQ.out.kept hk8);have HR8:=ae (HR7.out.kept hk8);have HF8:=ae (HF7.out.kept hk8);have HK8:=ae (HK7.out.trans hk8);clear hk8;go_wp2_with fail;refine (HSU.out _ _ _ HVP8.out HVQ8.out).mono ?_;rintro e w9 ⟨⟨v9,rfl,hv9⟩,hk9⟩;have HV9:=ae hv9;have HVD9:=ae (HVD8.out.kept hk9);have HR9:=ae (HR8.out.kept hk9);have HF9:=ae (HF8.out.kept hk9);have HK9:=ae (HK8.out.trans hk9);clear hv9 hk9;go_wp2_with fail;refine (HFO.out _ _ _ HV9.out HVD9.out).mono ?_;rintro e w10 ⟨⟨v10,rfl,hv10⟩,hk10⟩;have hr10:=HR9.out.kept hk10;have HF10:=ae (HF9.out.kept hk10);have HK10:=ae (HK9.out.trans hk10);obtain ⟨u7,u8,rfl,k7,k8⟩:=hv10;obtain ⟨a7,c7,rfl⟩:=k7.shape
 obtain ⟨a8,c8,rfl⟩:=k8.shape;obtain ⟨y0,y1,y2,hra⟩:=dA (.cells #[.bool R.neg,.slice a7 R.num.length c7,.slice a8 R.den.length c8] 29) hr10 HF10.out k7 k8;have hlt:=hr10.lt;have g0:=hr10.cell (i:=0) (by simp);have g1:=hr10.cell (i:=1) (by simp);have g2:=hr10.cell (i:=2) (by simp);have f0:=hr10.free 0;have f1:=hr10.free 1;have f2:=hr10.free 2;have HRA:=ae hra;have Y0:=ae y0;have Y1:=ae y1;have Y2:=ae y2;clear hra y0 y1 y2 k7 k8 hr10 hk10;generalize R.num.length=n7 at *;generalize R.den.length=n8 at *;go_wp2;refine bodyPost_ret (v:=.agg #[.bool R.neg,.slice a7 n7 c7,.slice a8 n8 c8]) ?_ rfl ⟨⟨_,rfl,HRA.out⟩,?_⟩
 ·simp [results,Tryz.results113,go_sem,Y0.out,Y1.out,Y2.out]
 ·exact (((HK10.out.store (by omega) _ _).store (by omega) _ _).store (by omega) _ _).alloc _
theorem qr (va vb:Value) (r s:Rw) (w:World) (ha:RatAt w va r) (hb:RatAt w vb s) (hr:r.Short 34359738368) (hs:s.Short 34359738368) (hss:(ag r).1≠(ag s).1) (hle:nv (ag r).2.1*nv (ag s).2.2<nv (ag s).2.1*nv (ag r).2.2):Calls Tryz.prog 113 #[va,vb] w fun e w'=>(∃ v',e=.returned v'/\RatAt w' v' (aj (al r+al s)))/\af w w':=by
 have HP1:=ae (fun W (hk:af w W)=>bH va r W (ha.kept hk) ⟨Nat.le_trans hr.1 (by omega),Nat.le_trans hr.2 (by omega)⟩);have HP2:=ae (fun W (hk:af w W)=>bH vb s W (hb.kept hk) ⟨Nat.le_trans hs.1 (by omega),Nat.le_trans hs.2 (by omega)⟩);have hok1:=aG ha.ok;have hok2:=aG hb.ok;have hsh1:=aI hr (by omega);have hsh2:=aI hs (by omega);obtain ⟨R,hR⟩:∃ R,R=aj (al r+al s):=⟨_,rfl⟩;obtain ⟨p,hp⟩:∃ p,p=nv (ag r).2.1*nv (ag s).2.2:=⟨_,rfl⟩;obtain ⟨q,hq⟩:∃ q,q=nv (ag s).2.1*nv (ag r).2.2:=⟨_,rfl⟩;obtain ⟨d,hd⟩:∃ d,d=nv (ag r).2.2*nv (ag s).2.2:=⟨_,rfl⟩;have hlp:(nw p).length<=68719476736:=by rw [hp];exact Nat.le_trans (aF hok1.1 hok2.2.1) (by omega)
 have hlq:(nw q).length<=68719476736:=by rw [hq];exact Nat.le_trans (aF hok2.1 hok1.2.1) (by omega)
 have hld:(nw d).length<=68719476736:=by rw [hd];exact Nat.le_trans (aF hok1.2.1 hok2.2.1) (by omega)
 have hd0:d≠0:=by rw [hd];exact Nat.mul_ne_zero hok1.2.2.1 hok2.2.2.1
 rw [<-hp,<-hq] at hle
 have HCM:Hid (∀ W u1 u2,ah W u1 (nw p)->ah W u2 (nw q)->Calls Tryz.prog 175 #[u1,u2] W fun e w'=>e=.returned (.int .i64 (cU p q))/\af W w'):=ae fun W u1 u2 k1 k2=>by
  have h:=eX u1 u2 _ _ W k1 k2;rw [am,am] at h;exact h.mono fun _ _ ⟨h1,h2⟩=>⟨h1,by rw [h2];exact af.refl _⟩
 have HSU:Hid (∀ W u1 u2,ah W u1 (nw q)->ah W u2 (nw p)->Calls Tryz.prog 176 #[u1,u2] W fun e w'=>(∃ v',e=.returned (.tuple #[v',.int .i64 0])/\ah w' v' (nw (q - p)))/\af W w'):=ae fun W u1 u2 k1 k2=>by
  have h:=iS u1 u2 _ _ W k1 k2 (by rw [am,am];exact Nat.le_of_lt hle);rw [am,am] at h;exact h
 obtain ⟨cm,hcm⟩:∃ cm,cm=cU p q:=⟨_,rfl⟩;rw [<-hcm] at HCM
 have hcm0:cm<0:=by
  rw [hcm];rw [ff hle];omega
 have HFO:Hid (∀ W u1 u2,ah W u1 (nw (q - p))->ah W u2 (nw d)->Calls Tryz.prog 163 #[.bool (ag s).1,u1,u2] W fun e w'=>(∃ v,e=.returned (.tuple #[v,.int .i64 0])/\RatAt w' v R)/\af W w'):=ae fun W u1 u2 k1 k2=>by
  have h:=dB (ag s).1 u1 u2 _ _ W k1 k2 (Nat.le_trans (bT (Nat.sub_le q p)) (by omega)) (Nat.le_trans hld (by omega)) (by rw [am];exact hd0);rw [am,am,ci _ _ _ hd0,hp,hq,hd,iQ ha.ok hb.ok hss (by rw [hp,hq] at hle;exact Nat.le_of_lt hle),<-hR] at h;exact h
 have HM1:Hid (∀ W u1 u2,ah W u1 (ag r).2.1->ah W u2 (ag s).2.2->Calls Tryz.prog 164 #[u1,u2] W fun e w'=>(∃ v',e=.returned v'/\ah w' v' (nw p))/\af W w'):=ae fun W u1 u2 k1 k2=>by rw [hp];exact bP u1 u2 _ _ W k1 k2 (by omega) (by omega)
 have HM2:Hid (∀ W u1 u2,ah W u1 (ag s).2.1->ah W u2 (ag r).2.2->Calls Tryz.prog 164 #[u1,u2] W fun e w'=>(∃ v',e=.returned v'/\ah w' v' (nw q))/\af W w'):=ae fun W u1 u2 k1 k2=>by rw [hq];exact bP u1 u2 _ _ W k1 k2 (by omega) (by omega)
 have HM3:Hid (∀ W u1 u2,ah W u1 (ag r).2.2->ah W u2 (ag s).2.2->Calls Tryz.prog 164 #[u1,u2] W fun e w'=>(∃ v',e=.returned v'/\ah w' v' (nw d))/\af W w'):=ae fun W u1 u2 k1 k2=>by rw [hd];exact bP u1 u2 _ _ W k1 k2 (by omega) (by omega)
 rw [<-hR];obtain ⟨u1,u2,rfl,h1,h2⟩:=ha;obtain ⟨u3,u4,rfl,h3,h4⟩:=hb;obtain ⟨a1,c1,rfl⟩:=h1.shape;obtain ⟨a2,c2,rfl⟩:=h2.shape;obtain ⟨a3,c3,rfl⟩:=h3.shape;obtain ⟨a4,c4,rfl⟩:=h4.shape;obtain ⟨w2,hw2⟩:∃ w2,w2=((w.alloc (.cells #[.bool r.neg,.slice a1 r.num.length c1,.slice a2 r.den.length c2] 29)).alloc (.cells #[.bool s.neg,.slice a3 s.num.length c3,.slice a4 s.den.length c4] 29)).alloc (.cells #[.bool false,.slice none 0 0,.slice none 0 0] 29):=⟨_,rfl⟩;have HM:=ae (cM w (.cells #[.bool r.neg,.slice a1 r.num.length c1,.slice a2 r.den.length c2] 29) (.cells #[.bool s.neg,.slice a3 s.num.length c3,.slice a4 s.den.length c4] 29));rw [<-hw2] at HM;have hb2:=ai.made (w.alloc (.cells #[.bool r.neg,.slice a1 r.num.length c1,.slice a2 r.den.length c2] 29)) #[.bool s.neg,.slice a3 s.num.length c3,.slice a4 s.den.length c4] 29;simp only [World.size_alloc] at hb2;have HB2:Hid (ai w2 (w.heap.size+1) 29 [.bool s.neg,.slice a3 s.num.length c3,.slice a4 s.den.length c4]):=ae (by rw [hw2];exact hb2.kept ((af.refl _).alloc _));have HW2:=ae hw2;generalize nw d=DE at *;generalize (ag r).1=s1 at *;generalize (ag s).1=s2 at *;generalize (ag r).2.1=N at *;generalize (ag r).2.2=D at *;generalize (ag s).2.1=M at *;generalize (ag s).2.2=E at *;generalize r.num.length=n1 at *;generalize r.den.length=n2 at *;generalize s.num.length=n3 at *;generalize s.den.length=n4 at *
 generalize r.neg=neg1 at *;generalize s.neg=neg2 at *;clear hok1 hok2 hsh1 hsh2 hR h1 h2 h3 h4 hr hs hw2 hb2 hp hq hd hlp hlq hld hd0;have hb:(s1 == s2)=false:=by simpa using hss
 clear hss hcm hle;go_enter Tryz.func113,Tryz.ntmps113;go_wp2_with fail;rw [<-HW2.out];refine (HP1.out _ HM.out.2.2).mono ?_;rintro e w3 ⟨⟨u3,u4,rfl,hu3,hu4⟩,hk3⟩;have HN:=ae hu3;have HD:=ae hu4;have HR3:=ae (HM.out.1.kept hk3);have HF3:=ae (HM.out.2.1.kept hk3);have hb3:=HB2.out.kept hk3;have g0:=hb3.cell (i:=0) (by simp);have g1:=hb3.cell (i:=1) (by simp);have g2:=hb3.cell (i:=2) (by simp);simp only [List.getElem_cons_succ,List.getElem_cons_zero] at g0 g1 g2;have HK3:=ae (HM.out.2.2.trans hk3);clear hu3 hu4 hk3 hb3;go_wp2_with fail;refine (HP2.out _ HK3.out).mono ?_;rintro e w4 ⟨⟨u5,u6,rfl,hu5,hu6⟩,hk4⟩;have HN':=ae (HN.out.kept hk4);have HD':=ae (HD.out.kept hk4);have HMM:=ae hu5;have HEE:=ae hu6;have HR4:=ae (HR3.out.kept hk4);have HF4:=ae (HF3.out.kept hk4);have HK4:=ae (HK3.out.trans hk4);clear hu5 hu6 hk4 g0 g1 g2;go_wp2_with fail;refine (HM1.out _ _ _ HN'.out HEE.out).mono ?_;rintro e w5 ⟨⟨v5,rfl,hv5⟩,hk5⟩;have HV5:=ae hv5;have HR5:=ae (HR4.out.kept hk5);have HF5:=ae (HF4.out.kept hk5);have HD5:=ae (HD'.out.kept hk5);have HE5:=ae (HEE.out.kept hk5);have HM5:=ae (HMM.out.kept hk5);have HK5:=ae (HK4.out.trans hk5);clear hv5 hk5;go_wp2_with fail;refine (HM2.out _ _ _ HM5.out HD5.out).mono ?_;rintro e w6 ⟨⟨v6,rfl,hv6⟩,hk6⟩;have HV6:=ae hv6;have HV5':=ae (HV5.out.kept hk6)
 have HR6:=ae (HR5.out.kept hk6);have HF6:=ae (HF5.out.kept hk6);have HD6:=ae (HD5.out.kept hk6);have HE6:=ae (HE5.out.kept hk6);have HK6:=ae (HK5.out.trans hk6);clear hv6 hk6;go_wp2_with fail;refine (HM3.out _ _ _ HD6.out HE6.out).mono ?_;rintro e w7 ⟨⟨v7,rfl,hv7⟩,hk7⟩;have HVD:=ae hv7;have HVP:=ae (HV5'.out.kept hk7);have HVQ:=ae (HV6.out.kept hk7);have HR7:=ae (HR6.out.kept hk7);have HF7:=ae (HF6.out.kept hk7);have HK7:=ae (HK6.out.trans hk7);clear hv7 hk7;go_wp2_with fail;refine (HCM.out _ _ _ HVP.out HVQ.out).mono ?_;rintro e w8 ⟨rfl,hk8⟩;have HVD8:=ae (HVD.out.kept hk8);have HVP8:=ae (HVP.out.kept hk8);have HVQ8:=ae (HVQ.out.kept hk8);have HR8:=ae (HR7.out.kept hk8);have HF8:=ae (HF7.out.kept hk8);have HK8:=ae (HK7.out.trans hk8);clear hk8;go_wp2_with fail;refine (HSU.out _ _ _ HVQ8.out HVP8.out).mono ?_;rintro e w9 ⟨⟨v9,rfl,hv9⟩,hk9⟩;have HV9:=ae hv9;have HVD9:=ae (HVD8.out.kept hk9);have HR9:=ae (HR8.out.kept hk9);have HF9:=ae (HF8.out.kept hk9);have HK9:=ae (HK8.out.trans hk9);clear hv9 hk9;go_wp2_with fail;refine (HFO.out _ _ _ HV9.out HVD9.out).mono ?_;rintro e w10 ⟨⟨v10,rfl,hv10⟩,hk10⟩;have hr10:=HR9.out.kept hk10;have HF10:=ae (HF9.out.kept hk10);have HK10:=ae (HK9.out.trans hk10);obtain ⟨u7,u8,rfl,k7,k8⟩:=hv10;obtain ⟨a7,c7,rfl⟩:=k7.shape
 obtain ⟨a8,c8,rfl⟩:=k8.shape;obtain ⟨y0,y1,y2,hra⟩:=dA (.cells #[.bool R.neg,.slice a7 R.num.length c7,.slice a8 R.den.length c8] 29) hr10 HF10.out k7 k8;have hlt:=hr10.lt;have g0:=hr10.cell (i:=0) (by simp);have g1:=hr10.cell (i:=1) (by simp);have g2:=hr10.cell (i:=2) (by simp);have f0:=hr10.free 0;have f1:=hr10.free 1;have f2:=hr10.free 2;have HRA:=ae hra;have Y0:=ae y0;have Y1:=ae y1;have Y2:=ae y2;clear hra y0 y1 y2 k7 k8 hr10 hk10;generalize R.num.length=n7 at *;generalize R.den.length=n8 at *;go_wp2;refine bodyPost_ret (v:=.agg #[.bool R.neg,.slice a7 n7 c7,.slice a8 n8 c8]) ?_ rfl ⟨⟨_,rfl,HRA.out⟩,?_⟩
 ·simp [results,Tryz.results113,go_sem,Y0.out,Y1.out,Y2.out]
 ·exact (((HK10.out.store (by omega) _ _).store (by omega) _ _).store (by omega) _ _).alloc _
theorem jv (va vb:Value) (r s:Rw) (w:World) (ha:RatAt w va r) (hb:RatAt w vb s) (hr:r.Short 34359738368) (hs:s.Short 34359738368):Calls Tryz.prog 113 #[va,vb] w fun e w'=>(∃ v',e=.returned v'/\RatAt w' v' (aj (al r+al s)))/\af w w':=by
 by_cases h:(ag r).1=(ag s).1
 ·exact mz va vb r s w ha hb hr hs h
 ·rcases Nat.lt_or_ge (nv (ag r).2.1*nv (ag s).2.2) (nv (ag s).2.1*nv (ag r).2.2) with h2 | h2
  ·exact qr va vb r s w ha hb hr hs h h2
  ·exact qp va vb r s w ha hb hr hs h h2
theorem jw (va vb:Value) (r s:Rw) (w:World) (ha:RatAt w va r) (hb:RatAt w vb s) (hr:r.Short 34359738368) (hs:s.Short 34359738368):Calls Tryz.prog 101 #[va,vb] w fun e w'=>(∃ v',e=.returned v'/\RatAt w' v' (aj (al r - al s)))/\af w w':=by
 have HNE:=ae (fun W (hk:af w W)=>sj vb s W (hb.kept hk) ⟨Nat.le_trans hs.1 (by omega),Nat.le_trans hs.2 (by omega)⟩);obtain ⟨R,hR⟩:∃ R,R=aj (al r - al s):=⟨_,rfl⟩
 have HAD:Hid (∀ W v,af w W->RatAt W v (aj (- al s))->Calls Tryz.prog 113 #[va,v] W fun e w'=>(∃ v',e=.returned v'/\RatAt w' v' R)/\af W w'):=ae fun W v hk hv=>by
  have h:=jv va v r _ W (ha.kept hk) hv hr (fK hb.ok hs (by omega));rw [aA,<-Rat.sub_eq_add_neg,<-hR] at h;exact h
 rw [<-hR];obtain ⟨u1,u2,rfl,h1,h2⟩:=ha;obtain ⟨u3,u4,rfl,h3,h4⟩:=hb;obtain ⟨a1,c1,rfl⟩:=h1.shape;obtain ⟨a2,c2,rfl⟩:=h2.shape;obtain ⟨a3,c3,rfl⟩:=h3.shape;obtain ⟨a4,c4,rfl⟩:=h4.shape;generalize r.num.length=n1 at *;generalize r.den.length=n2 at *;generalize s.num.length=n3 at *;generalize s.den.length=n4 at *;generalize r.neg=neg1 at *;generalize s.neg=neg2 at *;obtain ⟨w2,hw2⟩:∃ w2,w2=((w.alloc (.cells #[.bool neg1,.slice a1 n1 c1,.slice a2 n2 c2] 29)).alloc (.cells #[.bool neg2,.slice a3 n3 c3,.slice a4 n4 c4] 29)).alloc (.cells #[.bool false,.slice none 0 0,.slice none 0 0] 29):=⟨_,rfl⟩;have HM:=ae (cM w (.cells #[.bool neg1,.slice a1 n1 c1,.slice a2 n2 c2] 29) (.cells #[.bool neg2,.slice a3 n3 c3,.slice a4 n4 c4] 29));rw [<-hw2] at HM;have ha2:=ai.made w #[.bool neg1,.slice a1 n1 c1,.slice a2 n2 c2] 29;have HA2:Hid (ai w2 w.heap.size 29 [.bool neg1,.slice a1 n1 c1,.slice a2 n2 c2]):=ae (by rw [hw2];exact ha2.kept (((af.refl _).alloc _).alloc _));have hb2:=ai.made (w.alloc (.cells #[.bool neg1,.slice a1 n1 c1,.slice a2 n2 c2] 29)) #[.bool neg2,.slice a3 n3 c3,.slice a4 n4 c4] 29;simp only [World.size_alloc] at hb2;have HB2:Hid (ai w2 (w.heap.size+1) 29 [.bool neg2,.slice a3 n3 c3,.slice a4 n4 c4]):=ae (by rw [hw2];exact hb2.kept ((af.refl _).alloc _));have HW2:=ae hw2;clear hR h1 h2 h3 h4 hr hs hw2 ha2 hb2;have p0:=HA2.out.cell (i:=0) (by simp)
 have p1:=HA2.out.cell (i:=1) (by simp);have p2:=HA2.out.cell (i:=2) (by simp);have g0:=HB2.out.cell (i:=0) (by simp);have g1:=HB2.out.cell (i:=1) (by simp);have g2:=HB2.out.cell (i:=2) (by simp);simp only [List.getElem_cons_succ,List.getElem_cons_zero] at p0 p1 p2 g0 g1 g2;go_enter Tryz.func101,Tryz.ntmps101;go_wp2_with fail;rw [<-HW2.out]
 go_region_with (first
  | (go_at_call 111;(with_reducible refine (HNE.out _ HM.out.2.2.drew).mono ?_);rintro e w3 ⟨⟨v3,rfl,hv3⟩,hk3⟩;have hkd:=(af.refl w2).drew.trans hk3;have x0:=hkd.cell p0;have x1:=hkd.cell p1;have x2:=hkd.cell p2;have HV3:=ae hv3;have HKD:=ae hkd;have HR3:=ae (HM.out.1.kept hkd);have HF3:=ae (HM.out.2.1.kept hkd);clear hv3 hk3 hkd)
  | (go_at_call 113;(with_reducible refine (HAD.out _ _ (HM.out.2.2.trans HKD.out) HV3.out).mono ?_);rintro e w4 ⟨⟨v4,rfl,hv4⟩,hk4⟩;have hr4:=HR3.out.kept hk4;have HR4:=ae hr4;have HF4:=ae (HF3.out.kept hk4);have HK4:=ae ((HM.out.2.2.trans HKD.out).trans hk4);obtain ⟨u5,u6,rfl,k5,k6⟩:=hv4;obtain ⟨a5,c5,rfl⟩:=k5.shape;obtain ⟨a6,c6,rfl⟩:=k6.shape;have K5:=ae k5;have K6:=ae k6;have z0:=hr4.cell (i:=0) (by simp);have z1:=hr4.cell (i:=1) (by simp);have z2:=hr4.cell (i:=2) (by simp);have f0:=hr4.free 0;have f1:=hr4.free 1;have f2:=hr4.free 2;clear k5 k6 hr4 hk4))
 all_goals
  obtain ⟨y0,y1,y2,hra⟩:=az HR4.out HF4.out K5.out K6.out;generalize R.num.length=n7 at *;generalize R.den.length=n8 at *;go_wp2;refine bodyPost_ret (v:=.agg #[.bool R.neg,.slice a5 n7 c5,.slice a6 n8 c6]) ?_ rfl ⟨⟨_,rfl,hra⟩,?_⟩
  ·simp [results,Tryz.results101,go_sem,y0,y1,y2]
  ·exact ((HK4.out.store (by omega) _ _).store (by omega) _ _).store (by omega) _ _
theorem oB (va vb:Value) (r s:Rw) (w:World) (ha:RatAt w va r) (hb:RatAt w vb s) (hr:r.Short 34359738368) (hs:s.Short 34359738368):Calls Tryz.prog 112 #[va,vb] w fun e w'=>e=.returned (.int .i64 (eF (al r - al s)))/\af w w':=by
 have HSU:=ae (fun W (hk:af w W)=>jw va vb r s W (ha.kept hk) (hb.kept hk) hr hs)
 have hsh:(aj (al r - al s)).Short 137438953472:=by
  have h:=gS ha.ok (dc _) hr (fK hb.ok hs (by omega)) (by omega) (by omega);rw [aA,<-Rat.sub_eq_add_neg] at h;exact ⟨Nat.le_trans h.1 (by omega),Nat.le_trans h.2 (by omega)⟩
 have HSG:Hid (∀ W v,RatAt W v (aj (al r - al s))->Calls Tryz.prog 121 #[v] W fun e w'=>e=.returned (.int .i64 (eF (al r - al s)))/\af W w'):=ae fun W v hv=>by
  have h:=kE v _ W hv hsh;rw [aA] at h;exact h
 obtain ⟨u1,u2,rfl,h1,h2⟩:=ha;obtain ⟨u3,u4,rfl,h3,h4⟩:=hb;obtain ⟨a1,c1,rfl⟩:=h1.shape;obtain ⟨a2,c2,rfl⟩:=h2.shape;obtain ⟨a3,c3,rfl⟩:=h3.shape;obtain ⟨a4,c4,rfl⟩:=h4.shape;generalize aj (al r - al s)=R at *;generalize eF (al r - al s)=S at *;generalize r.num.length=n1 at *;generalize r.den.length=n2 at *;generalize s.num.length=n3 at *;generalize s.den.length=n4 at *;generalize r.neg=neg1 at *;generalize s.neg=neg2 at *;have HK0:Hid (af w ((w.alloc (.cells #[.bool neg1,.slice a1 n1 c1,.slice a2 n2 c2] 29)).alloc (.cells #[.bool neg2,.slice a3 n3 c3,.slice a4 n4 c4] 29))):=ae (((af.refl w).alloc _).alloc _);clear h1 h2 h3 h4 hr hs hsh;go_enter Tryz.func112,Tryz.ntmps112;go_wp2_with fail;refine (HSU.out _ HK0.out).mono ?_;rintro e w3 ⟨⟨v3,rfl,hv3⟩,hk3⟩;have HV3:=ae hv3;have HK3:=ae (HK0.out.trans hk3);clear hv3 hk3;go_wp2_with fail;refine (HSG.out _ _ HV3.out).mono ?_;rintro e w4 ⟨rfl,hk4⟩;have HK4:=ae (HK3.out.trans hk4);clear hk4;go_wp2;go_ret;exact ⟨rfl,HK4.out⟩
theorem de:(aj ((1:Int):Rat)).Short 1:=by
 have h1:(nw 1).length<=1:=aL.2 (by omega);have h:=dU false (n:=1) (d:=1) (k:=1) (l:=1) (by omega) h1 h1;rw [show sg false 1=(1:Int) from rfl,Rat.mkRat_one] at h;exact h
theorem qv (v:Value) (r:Rw) (w:World) (hv:RatAt w v r) (hs:r.Short 34359738368):Calls Tryz.prog 73 #[v] w fun e w'=>e=.returned (.bool (fi r))/\af w w':=by
 have HVA:=ae (fun W (hk:af w W)=>jy v r W (hv.kept hk) ⟨Nat.le_trans hs.1 (by omega),Nat.le_trans hs.2 (by omega)⟩);have HSG:=ae (fun W (hk:af w W)=>kE v r W (hv.kept hk) ⟨Nat.le_trans hs.1 (by omega),Nat.le_trans hs.2 (by omega)⟩);have HOF:Hid (∀ W,Calls Tryz.prog 102 #[.int .i64 1] W fun e w'=>(∃ v',e=.returned v'/\RatAt w' v' (aj ((1:Int):Rat)))/\af W w'):=ae fun W=>nr 1 W (by omega)
 have HCM:Hid (∀ W u,af w W->RatAt W u (aj ((1:Int):Rat))->Calls Tryz.prog 112 #[v,u] W fun e w'=>e=.returned (.int .i64 (eF (al r - ((1:Int):Rat))))/\af W w'):=ae fun W u hk hu=>by
  have h:=oB v u r _ W (hv.kept hk) hu hs ⟨Nat.le_trans de.1 (by omega),Nat.le_trans de.2 (by omega)⟩;rw [aA] at h;exact h
 rw [qe hv.ok];obtain ⟨neg,num,den⟩:=r;obtain ⟨u1,u2,rfl,h1,h2⟩:=hv;simp only at h1 h2;obtain ⟨a1,c1,rfl⟩:=h1.shape;obtain ⟨a2,c2,rfl⟩:=h2.shape;generalize eF (al ⟨neg,num,den⟩ - ((1:Int):Rat))=T at *;generalize eF (al ⟨neg,num,den⟩)=S at *;generalize aj ((1:Int):Rat)=ONE at *;generalize br ⟨neg,num,den⟩=vb at *;simp only at HVA HSG HCM⊢;generalize num.length=n1 at *;generalize den.length=n2 at *;obtain ⟨w1,hw1⟩:∃ w1,w1=w.alloc (.cells #[.bool neg,.slice a1 n1 c1,.slice a2 n2 c2] 29):=⟨_,rfl⟩;have HR:Hid (ai w1 w.heap.size 29 [.bool neg,.slice a1 n1 c1,.slice a2 n2 c2]):=ae (by rw [hw1];exact ai.made w #[.bool neg,.slice a1 n1 c1,.slice a2 n2 c2] 29);have HK0:Hid (af w w1):=ae (by rw [hw1];exact (af.refl w).alloc _);have HW1:=ae hw1;have q0:=HR.out.cell (i:=0) (by simp);have q1:=HR.out.cell (i:=1) (by simp);have q2:=HR.out.cell (i:=2) (by simp);simp only [List.getElem_cons_succ,List.getElem_cons_zero] at q0 q1 q2;clear h1 h2 hs hw1;cases vb with
 | false =>
  go_enter Tryz.func73,Tryz.ntmps73;go_wp2_with fail;rw [<-HW1.out];go_region_with (go_at_call 120;(with_reducible refine (HVA.out _ HK0.out.drew).mono ?_);rintro e w3 ⟨rfl,hk3⟩;have HKD:=ae (HK0.out.drew.trans hk3);clear hk3)
  all_goals
   go_wp2;go_ret;exact ⟨by first | rfl | (simp [Act.put];done) | (simp [go_sem];done),HKD.out⟩
 | true =>
  by_cases hS:0<=S
  ·have dS:decide (0<=S)=true:=by simp;exact hS
   have dS':decide (S ≥ 0)=true:=by simp;exact hS
   go_enter Tryz.func73,Tryz.ntmps73;go_wp2_with fail;rw [<-HW1.out]
   go_region_with (first
    | (go_at_call 120;(with_reducible refine (HVA.out _ HK0.out.drew).mono ?_);rintro e w3 ⟨rfl,hk3⟩;have hkd:=(af.refl w1).drew.trans hk3;have x0:=hkd.cell q0;have x1:=hkd.cell q1;have x2:=hkd.cell q2;have HKD:=ae (HK0.out.trans hkd);clear hk3 hkd)
    | (go_at_call 121;(with_reducible refine (HSG.out _ HKD.out).mono ?_);rintro e w4 ⟨rfl,hk4⟩;have y0:=hk4.cell x0;have y1:=hk4.cell x1;have y2:=hk4.cell x2;have HK4:=ae (HKD.out.trans hk4);clear hk4)
    | (go_at_call 102;(with_reducible refine (HOF.out _).mono ?_);rintro e w5 ⟨⟨v5,rfl,hv5⟩,hk5⟩;have z0:=hk5.cell y0;have z1:=hk5.cell y1;have z2:=hk5.cell y2;have HK5:=ae (HK4.out.trans hk5);have HV5:=ae hv5;clear hk5 hv5)
    | (go_at_call 112;(with_reducible refine (HCM.out _ _ HK5.out HV5.out).mono ?_);rintro e w6 ⟨rfl,hk6⟩;have HK6:=ae (HK5.out.trans hk6);clear hk6))
   all_goals
    go_wp2;go_ret;exact ⟨by first | (simp [hS,Act.put];done) | (simp [hS,go_sem];done),HK6.out⟩
  ·have dS:decide (0<=S)=false:=by simp;omega
   have dS':decide (S ≥ 0)=false:=by simp;omega
   go_enter Tryz.func73,Tryz.ntmps73;go_wp2_with fail;rw [<-HW1.out]
   go_region_with (first
    | (go_at_call 120;(with_reducible refine (HVA.out _ HK0.out.drew).mono ?_);rintro e w3 ⟨rfl,hk3⟩;have hkd:=(af.refl w1).drew.trans hk3;have x0:=hkd.cell q0;have x1:=hkd.cell q1;have x2:=hkd.cell q2;have HKD:=ae (HK0.out.trans hkd);clear hk3 hkd)
    | (go_at_call 121;(with_reducible refine (HSG.out _ HKD.out).mono ?_);rintro e w4 ⟨rfl,hk4⟩;have HK4:=ae (HKD.out.trans hk4);clear hk4))
   all_goals
    go_wp2;go_ret;exact ⟨by simp [Act.put];omega,HK4.out⟩
section
open Go.RowKit Go.ChangeShapes Go.WideShapes Go.ChangeAt Go.Joins Go.Deep
def eQ (w:World) (v:Value) (xs:List Nat):Prop :=
 ∃ (a:Option Addr) (c:Nat),v=.slice a xs.length c/\(xs.length<=c/\(a=none->c=0))/\xs.length<=140737488355328/\Wd xs /\
  ∀ i (_:i<xs.length),∃ b o,a=some ⟨b,o,none⟩/\w.cell? ⟨b,o+i,none⟩=some (.int .u32 ((xs.getD i 0:Nat):Int))
theorem eQ.kept {w w':World} {v:Value} {xs:List Nat} (h:eQ w v xs) (hk:af w w'):eQ w' v xs:=by
 obtain ⟨a,c,h1,h2,h3,h4,h5⟩:=h;exact ⟨a,c,h1,h2,h3,h4,fun i hi=>let ⟨b,o,h6,h7⟩:=h5 i hi;⟨b,o,h6,hk.cell h7⟩⟩
theorem eQ.small {w:World} {v:Value} {xs:List Nat} (h:eQ w v xs) (hl:xs.length<=1099511627776):ah w v xs:=by
 obtain ⟨a,c,h1,h2,_,h4,h5⟩:=h;exact ⟨a,c,h1,h2,hl,h4,h5⟩
theorem eQ.shape {w:World} {v:Value} {xs:List Nat} (h:eQ w v xs):∃ a c,v=.slice a xs.length c/\xs.length<=140737488355328:=by
 obtain ⟨a,c,h1,_,h3,_⟩:=h;exact ⟨a,c,h1,h3⟩
theorem eQ.nil (w:World):eQ w (.slice none 0 0) []:=⟨none,0,rfl,⟨by simp,fun _=>rfl⟩,by simp,Wd.nil,fun i h=>by simp at h⟩
def eh (w:World) (v:Value) (ps:List Rw):Prop :=
 ∃ (a:Option Addr) (c:Nat),v=.slice a ps.length c/\(ps.length<=c/\(a=none->c=0))/\ps.length<=140737488355328 /\
  ∀ i (h:i<ps.length),∃ b o u1 u2,a=some ⟨b,o,none⟩/\w.rangeAt b (o+i*3) [.bool ps[i].neg,u1,u2]/\eQ w u1 ps[i].num/\eQ w u2 ps[i].den
def RatsAt (w:World) (v:Value) (ps:List Rw):Prop :=
 ∃ (a:Option Addr) (c:Nat),v=.slice a ps.length c/\(ps.length<=c/\(a=none->c=0))/\ps.length<=140737488355328 /\
  ∀ i (h:i<ps.length),∃ b o u1 u2,a=some ⟨b,o,none⟩/\w.rangeAt b (o+i*3) [.bool ps[i].neg,u1,u2]/\ah w u1 ps[i].num/\ah w u2 ps[i].den
theorem dv {w w':World} {b o:Nat} {cs:List Value} (h:w.rangeAt b o cs) (hk:af w w'):w'.rangeAt b o cs:=fun j v hj=>hk.cell (h j v hj)
theorem eh.kept {w w':World} {v:Value} {ps:List Rw} (h:eh w v ps) (hk:af w w'):eh w' v ps:=by
 obtain ⟨a,c,h1,h2,h3,h4⟩:=h;exact ⟨a,c,h1,h2,h3,fun i hi=>let ⟨b,o,u1,u2,h5,h6,h7,h8⟩:=h4 i hi;⟨b,o,u1,u2,h5,dv h6 hk,h7.kept hk,h8.kept hk⟩⟩
theorem RatsAt.kept {w w':World} {v:Value} {ps:List Rw} (h:RatsAt w v ps) (hk:af w w'):RatsAt w' v ps:=by
 obtain ⟨a,c,h1,h2,h3,h4⟩:=h;exact ⟨a,c,h1,h2,h3,fun i hi=>let ⟨b,o,u1,u2,h5,h6,h7,h8⟩:=h4 i hi;⟨b,o,u1,u2,h5,dv h6 hk,h7.kept hk,h8.kept hk⟩⟩
theorem eh.small {w:World} {v:Value} {ps:List Rw} (h:eh w v ps) (hs:∀ r∈ps,r.Short 1099511627776):RatsAt w v ps:=by
 obtain ⟨a,c,h1,h2,h3,h4⟩:=h;exact ⟨a,c,h1,h2,h3,fun i hi=>let ⟨b,o,u1,u2,h5,h6,h7,h8⟩:=h4 i hi;⟨b,o,u1,u2,h5,h6,h7.small (hs _ (List.getElem_mem _)).1,h8.small (hs _ (List.getElem_mem _)).2⟩⟩
theorem RatsAt.shape {w:World} {v:Value} {ps:List Rw} (h:RatsAt w v ps):∃ a c,v=.slice a ps.length c:=by obtain ⟨a,c,h1,_⟩:=h;exact ⟨a,c,h1⟩
theorem RatsAt.get {w:World} {a:Option Addr} {n c:Nat} {ps:List Rw} (h:RatsAt w (.slice a n c) ps) (i:Nat) (hi:i<ps.length):∃ b o u1 u2,a=some ⟨b,o,none⟩/\w.rangeAt b (o+i*3) [.bool (ps.getD i default).neg,u1,u2]/\ah w u1 (ps.getD i default).num/\ah w u2 (ps.getD i default).den:=by
 obtain ⟨a',c',h1,_,_,h4⟩:=h;injection h1 with e1 e2 e3
 subst e1;have e:ps.getD i default=ps[i]:=by simp [List.getD_eq_getElem?_getD,hi]
 rw [e];exact h4 i hi
theorem mG:Tryz.prog.cellsOf 29=3:=by kernel_rfl
theorem oY:Tryz.prog.cellsOf 27=1:=by kernel_rfl
theorem tG:Tryz.prog.cellsOf 70=1:=by kernel_rfl
theorem qY:Tryz.prog.cellsOf 4=1:=by kernel_rfl
theorem tE:Tryz.prog.bytesOf 29=56:=by kernel_rfl
theorem tF:Tryz.prog.bytesOf 70=4:=by kernel_rfl
theorem k_ {n:Int} (h:(Lit.int .u32 n).wf=true):0<=n/\n<4294967296:=by
 simp [Lit.wf,IntKind.min,IntKind.max,IntKind.signed,IntKind.bits] at h;omega
section
variable {H:Type} {enc:TypeId × Value->H} {W:World} {base:Nat}
theorem ml {fuel:Nat} {cs:List Value} {x:DataW H × List MemPlace} (hb:∀ n∈x.1.weights Tryz.prog 27,n<=reachBytes)
  (h:DataW.trod enc Tryz.prog W base (fun _=>true) true fuel 27 cs=some x):∃ u xs,cs=[u]/\eQ W u xs:=by
 rcases open_ints Tryz.underlying27 Tryz.underlying70 tG h with ⟨rfl,rfl⟩ | ⟨a,len,cap,zs,rfl,_,hl,hm,hz,rfl,hcell,hwz⟩
 ·exact ⟨_,[],rfl,eQ.nil _⟩
 ·simp only [if_true] at hz
  have hbb:=hb ((zs.take len).length*4+(zs.drop len).length*4) (by
   simp only [DataW.weights,Tryz.underlying27,tF,List.mem_cons];exact .inl (by simp [lits];omega))
  simp [reachBytes] at hbb;have hlen:((zs.take len).map Int.toNat).length=len:=by simp;omega
  refine ⟨_,(zs.take len).map Int.toNat,rfl,some a,cap,by rw [hlen],⟨by rw [hlen];exact hl,fun h=>by cases h⟩,by rw [hlen];omega,fun z hz=>?_,fun i hi=>?_⟩
  ·obtain ⟨y,hy,rfl⟩:=List.mem_map.1 hz;have:=k_ (hwz y (List.mem_of_mem_take hy));omega
  ·rw [hlen] at hi;have hc:=hcell i (by omega);obtain ⟨b,o,spot⟩:=a;have hspot:spot=none:=World.cell?_spot (hcell 0 (by omega));subst hspot;refine ⟨b,o,rfl,?_⟩
   have e:((((zs.take len).map Int.toNat).getD i 0:Nat):Int)=zs.getD i 0:=by
    have h1:i<zs.length:=by omega
    have h2:=k_ (hwz zs[i] (List.getElem_mem _));simp [List.getD_eq_getElem?_getD,h1,hi];omega
   rw [e,<-hc];congr 1;by_cases h0:i=0
   ·subst h0;rfl
   ·simp [Addr.add,h0]
theorem uL {fuel:Nat} {cs:List Value} {x:DataW H × List MemPlace} (hb:∀ n∈x.1.weights Tryz.prog 23,n<=reachBytes)
  (h:DataW.trod enc Tryz.prog W base (fun _=>true) true fuel 23 cs=some x):∃ u ps,cs=[u]/\eh W u ps:=by
 rcases open_slice Tryz.underlying23 h with ⟨rfl,rfl⟩ | ⟨a,len,cap,m,n,D,Pl,rfl,_,hl,hm,hmm,rfl,hx⟩
 ·exact ⟨_,[],rfl,none,0,rfl,⟨by simp,fun _=>rfl⟩,by simp,fun i h=>by simp at h⟩
 ·simp only [if_true] at hmm;have hmc:=hmm.symm;subst hmc
  have hbb:=hb (cap*56) (by
   simp only [DataW.weights,Tryz.underlying23,tE,List.mem_cons];refine .inl ?_;simp;omega)
  simp [reachBytes] at hbb
  have each:∀ i,i<len->∃ y:Rw,∃ b o u1 u2,a=⟨b,o,none⟩/\W.rangeAt b (o+i*3) [.bool y.neg,u1,u2]/\eQ W u1 y.num/\eQ W u2 y.den:=by
   intro i hi;obtain ⟨cs',hc,ht⟩:=hx i (by omega);rw [mG] at hc;obtain ⟨_,hcl,hat⟩:=World.cells?_some hc;obtain ⟨y0,y1,y2,n',hy,hlen,g0,g1,g2⟩:=trod_struct3 Tryz.underlying29 ht
   match cs',hcl with
   | [c0,c1,c2],_ =>
    have q0:=hat 0 (by omega);have q1:=hat 1 (by omega);have q2:=hat 2 (by omega);simp only [List.getElem?_cons_zero,List.getElem?_cons_succ] at q0 q1 q2;have k0:Tryz.prog.cellsOf 4=1:=qY;have k2:Tryz.prog.cellsOf 27=1:=oY;simp only [k0,k2,List.drop_zero,List.drop_succ_cons,List.take_succ_cons,List.take_zero] at g0 g1 g2;obtain ⟨ng,e0,hy0⟩:=DataW.trod_bool Tryz.underlying4 g0;simp at e0;subst e0;have hdi:D i=.agg [y0.1,y1.1,y2.1]:=by simpa using congrArg Prod.fst hy
    obtain ⟨u1,xs1,e1,hu1⟩:=ml (fun n hn=>hb n (by
     simp only [DataW.weights,Tryz.underlying23,List.mem_cons,List.mem_append];refine .inr (.inl (dP (d:=D i) (List.mem_map.2 ⟨i,by simpa using hi,rfl⟩) n ?_));rw [hdi];simp only [DataW.weights,Tryz.underlying29];simp only [List.map_cons,DataW.weightsEach,List.mem_append];exact .inr (.inl hn))) g1
    obtain ⟨u2,xs2,e2,hu2⟩:=ml (fun n hn=>hb n (by
     simp only [DataW.weights,Tryz.underlying23,List.mem_cons,List.mem_append];refine .inr (.inl (dP (d:=D i) (List.mem_map.2 ⟨i,by simpa using hi,rfl⟩) n ?_));rw [hdi];simp only [DataW.weights,Tryz.underlying29];simp only [List.map_cons,DataW.weightsEach,List.mem_append];exact .inr (.inr (.inl hn)))) g2
    simp at e1 e2;subst e1 e2;obtain ⟨b,o,spot⟩:=a
    have hspot:spot=none:=by
     obtain ⟨cs0,hc0,_⟩:=hx 0 (by omega);rw [mG] at hc0;obtain ⟨_,hcl0,hat0⟩:=World.cells?_some hc0;have h1:=hat0 0 (by omega);rw [List.getElem?_eq_getElem (by omega)] at h1;exact World.cell?_spot (a:=⟨b,o,spot⟩) (by simpa [Addr.add] using h1)
    subst hspot;refine ⟨⟨ng,xs1,xs2⟩,b,o,c1,c2,rfl,?_,hu1,hu2⟩;intro j v hj
    match j,hj with
    | 0,hj=>simp at hj;subst hj;rw [<-q0,kL,kL]
    | 1,hj=>simp at hj;subst hj;rw [<-q1,kL,kL]
    | 2,hj=>simp at hj;subst hj;rw [<-q2,kL,kL]
  obtain ⟨g,hg⟩:=choose_lt each;refine ⟨_,(List.range len).map g,rfl,some a,cap,by simp,⟨by simp;omega,fun h=>by cases h⟩,by simp;omega,fun i hi=>?_⟩;simp only [List.length_map,List.length_range] at hi;obtain ⟨b,o,u1,u2,rfl,h1,h2,h3⟩:=hg i hi;exact ⟨b,o,u1,u2,rfl,by simpa using h1,by simpa using h2,by simpa using h3⟩
end
end
def zA (u:Value) (ps:List Rw):Prop:=∃ b,u=.bool b/\(b=false->ps.length<=30/\∀ r∈ps,r.Short 3)
theorem uf (v:Value) (ps:List Rw) (w:World) (hv:eh w v ps) :
  Calls Tryz.prog 12 #[v] w fun e w'=>(∃ u,e=.returned u/\zA u ps)/\af w w':=by
 obtain ⟨a,c,rfl,⟨hc,_⟩,hl,hx⟩:=hv;obtain ⟨n,hn⟩:∃ n,n=ps.length:=⟨_,rfl⟩;have hn9:n<=140737488355328:=by omega
 rw [<-hn];have HX:=ae hx;have HN:=ae hn;clear hx hn hl hc;go_enter Tryz.func12,Tryz.ntmps12;go_wp2_with fail;go_loopg [3,8] n (fun kx s3 s8 wr=>∃ k t:Nat,k<=n/\s8=.int .i64 k/\n - k<=kx/\s3=.int .i64 t/\t<=3*k/\Hid (∀ r∈ps.take k,r.Short 3)/\Hid (af w wr))
 case atStart=>exact ⟨0,0,Nat.zero_le _,rfl,by omega,rfl,by omega,ae (by simp),ae (af.refl _)⟩
 case round =>
  obtain ⟨k,t,hk,rfl,hkx,rfl,ht,HF,HK⟩:=hrel;by_cases hlt:k<n
  ·have hkl:k<ps.length:=by have:=HN.out;omega
   obtain ⟨b,o,u1,u2,rfl,hrg,hw1,hw2⟩:=HX.out k hkl;obtain ⟨r,hr⟩:∃ r,r=ps[k]:=⟨_,rfl⟩;rw [<-hr] at hrg hw1 hw2;have HR:=ae hr;have HRG0:=dv hrg HK.out;have hw2':=hw2.kept HK.out;obtain ⟨a1,c1,rfl,hl1⟩:=hw1.shape;obtain ⟨a2,c2,rfl,hl2⟩:=hw2.shape
   have HNX:Hid (r.Short 3->∀ x∈ps.take (k+1),x.Short 3):=ae fun h x hx=>by
    rw [List.take_succ_eq_append_getElem hkl] at hx;rcases List.mem_append.1 hx with hx | hx
    ·exact HF.out x hx
    ·simp at hx;rw [hx,<-HR.out];exact h
   have HSH:Hid (r.num.length<=3->r.den.length<=3->r.Short 3):=ae fun h1 h2=>⟨h1,h2⟩
   obtain ⟨n1,hn1⟩:∃ n1,n1=r.num.length:=⟨_,rfl⟩;obtain ⟨n2,hn2⟩:∃ n2,n2=r.den.length:=⟨_,rfl⟩;rw [<-hn1] at HRG0 hl1 HSH;rw [<-hn2] at HRG0 hl2 HSH hw2';have HRG:Hid (wr.rangeAt b (o+k*3) [.bool r.neg,.slice a1 n1 c1,.slice a2 n2 c2]):=ae HRG0;have HK2:Hid (af w (wr.alloc (.cells #[.bool r.neg,.slice a1 n1 c1,.slice a2 n2 c2] 29))):=ae (HK.out.alloc _);have HW2:=ae hw2';have HN2:=ae hn2;have hkn:(k:Int)<(n:Int):=by omega
   clear hr hrg hw1 hw2 hw2' HRG0 hn1 hn2;by_cases h1:3<n1
   ·have g1:(3:Int)<(n1:Int):=by omega
    have d1:decide ((3:Int)<(n1:Int))=true:=decide_eq_true g1;go_wp2_with (with_reducible refine wpList_load_mid rfl 29 _ rfl b (o+k*3) rfl _ _ HRG.out Tryz.underlying29 rfl (by kernel_rfl) ?_);go_ret;exact ⟨⟨_,rfl,true,rfl,fun h=>by cases h⟩,HK2.out⟩
   ·have g1:¬ (3:Int)<(n1:Int):=by omega
    have d1:decide ((3:Int)<(n1:Int))=false:=decide_eq_false g1;by_cases h2:3<n2
    ·have g2:(3:Int)<(n2:Int):=by omega
     have d2:decide ((3:Int)<(n2:Int))=true:=decide_eq_true g2;go_wp2_with (with_reducible refine wpList_load_mid rfl 29 _ rfl b (o+k*3) rfl _ _ HRG.out Tryz.underlying29 rfl (by kernel_rfl) ?_);go_ret;exact ⟨⟨_,rfl,true,rfl,fun h=>by cases h⟩,HK2.out⟩
    ·have g2:¬ (3:Int)<(n2:Int):=by omega
     have d2:decide ((3:Int)<(n2:Int))=false:=decide_eq_false g2;have HS3:=ae (HNX.out (HSH.out (by omega) (by omega)));obtain ⟨mx,hmx⟩:∃ mx,mx=max n1 n2:=⟨_,rfl⟩;have emx:max (n1:Int) (n2:Int)=(mx:Int):=by omega
     obtain ⟨t2,ht2⟩:∃ t2,t2=t+mx:=⟨_,rfl⟩;have et2:(t:Int)+(mx:Int)=(t2:Int):=by omega
     have ht29:t2<=3*(k+1):=by omega
     have ht28:t2<=422212465065987:=by omega
     clear hmx ht2;by_cases h3:1<n1
     ·have g3:(1:Int)<(n1:Int):=by omega
      have d3:decide ((1:Int)<(n1:Int))=true:=decide_eq_true g3;go_wp2_with (with_reducible refine wpList_load_mid rfl 29 _ rfl b (o+k*3) rfl _ _ HRG.out Tryz.underlying29 rfl (by kernel_rfl) ?_);go_roundg (n - (k+1))
      case measure=>omega
      case rel=>exact ⟨k+1,t2,by omega,by go_num,Nat.le_refl _,rfl,ht29,HS3,HK2⟩
     ·have g3:¬ (1:Int)<(n1:Int):=by omega
      have d3:decide ((1:Int)<(n1:Int))=false:=decide_eq_false g3;by_cases h4:1<n2
      ·have g4:(1:Int)<(n2:Int):=by omega
       have d4:decide ((1:Int)<(n2:Int))=true:=decide_eq_true g4;go_wp2_with (with_reducible refine wpList_load_mid rfl 29 _ rfl b (o+k*3) rfl _ _ HRG.out Tryz.underlying29 rfl (by kernel_rfl) ?_);go_roundg (n - (k+1))
       case measure=>omega
       case rel=>exact ⟨k+1,t2,by omega,by go_num,Nat.le_refl _,rfl,ht29,HS3,HK2⟩
      ·have g4:¬ (1:Int)<(n2:Int):=by omega
       have d4:decide ((1:Int)<(n2:Int))=false:=decide_eq_false g4;by_cases h5:n2=1
       ·have e5:((n2:Int) == 1)=true:=by simp;omega
        have hden:0<r.den.length:=by have:=HN2.out;omega
        obtain ⟨a2',c2',h6,h7,_,_,h8⟩:=HW2.out;injection h6 with h9 h10 h11
        obtain ⟨b2,o2,h12,h13⟩:=h8 0 hden;rw [<-h9] at h12;subst h12;obtain ⟨y,hy⟩:∃ y,y=r.den.getD 0 0:=⟨_,rfl⟩;rw [<-hy,Nat.add_zero] at h13;have h14:=((af.refl wr).alloc (.cells #[.bool r.neg,.slice a1 n1 c1,.slice (some ⟨b2,o2,none⟩) n2 c2] 29)).cell h13;have q0:(0:Int)<(n2:Int):=by omega
        have q0':0<n2:=by omega
        clear h7 h8 h9 h10 h11 h13 hy h5;by_cases h15:1024<=y
        ·have d5:decide ((1024:Int)<=(y:Int))=true:=decide_eq_true (by omega);have g5:(1024:Int)<=(y:Int):=by omega
         go_wp2_with (with_reducible refine wpList_load_mid rfl 29 _ rfl b (o+k*3) rfl _ _ HRG.out Tryz.underlying29 rfl (by kernel_rfl) ?_);go_roundg (n - (k+1))
         case measure=>omega
         case rel=>exact ⟨k+1,t2,by omega,by go_num,Nat.le_refl _,rfl,ht29,HS3,HK2⟩
        ·have d5:decide ((1024:Int)<=(y:Int))=false:=decide_eq_false (by omega);have g5:¬ (1024:Int)<=(y:Int):=by omega
         go_wp2_with (with_reducible refine wpList_load_mid rfl 29 _ rfl b (o+k*3) rfl _ _ HRG.out Tryz.underlying29 rfl (by kernel_rfl) ?_);go_roundg (n - (k+1))
         case measure=>omega
         case rel=>exact ⟨k+1,t,by omega,by go_num,Nat.le_refl _,rfl,by omega,HS3,HK2⟩
       ·have e5:((n2:Int) == 1)=false:=by simp;omega
        go_wp2_with (with_reducible refine wpList_load_mid rfl 29 _ rfl b (o+k*3) rfl _ _ HRG.out Tryz.underlying29 rfl (by kernel_rfl) ?_);go_roundg (n - (k+1))
        case measure=>omega
        case rel=>exact ⟨k+1,t,by omega,by go_num,Nat.le_refl _,rfl,by omega,HS3,HK2⟩
  ·have hke:k=n:=by omega
   have HALL:Hid (∀ r∈ps,r.Short 3):=ae (by have:=HF.out;rwa [List.take_of_length_le (by have:=HN.out;omega)] at this);have hkn:¬ (k:Int)<(n:Int):=by omega
   by_cases h30:30<n
   ·have g30:(30:Int)<(n:Int):=by omega
    have d30:decide ((30:Int)<(n:Int))=true:=decide_eq_true g30;go_wp2;go_ret;exact ⟨⟨_,rfl,true,rfl,fun h=>by cases h⟩,HK.out⟩
   ·have g30:¬ (30:Int)<(n:Int):=by omega
    have d30:decide ((30:Int)<(n:Int))=false:=decide_eq_false g30;go_wp2;go_ret;exact ⟨⟨_,rfl,_,rfl,fun _=>⟨by have:=HN.out;omega,HALL.out⟩⟩,HK.out⟩
def Ax (g:Nat) (lb:Array Value) (p:Rw->Bool) (w:World):Prop :=
 ∀ (W:World) (u:Value) (x:Rw),af w W->RatAt W u x->x.Short 34359738368->Calls Tryz.prog g (#[u]++lb) W fun e W'=>e=.returned (.bool (p x))/\af W W'
def eS (ps:List Rw):Bool:=ps.any fun r=>!fi r
end Go.Proofs.YtofibjflkebkpaaGreatDoor
