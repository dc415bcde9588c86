import Derived.WalkKit
import Derived.WalkSpells
import Derived.WalkLawsBesides
import Derived.Deep.QuietTactic
import Derived.BigQuiet
import Derived.Lib.Hide
import Derived.Shelf.Abstract
import Derived.Deep.RegionWith
import Derived.Laws.AppendOwnNone
import Derived.Lib.AppendZerosOnto
import Derived.Lib.SliceRun
import Derived.Lib.SlicesCompact
import Derived.Shelf.SlSortCmp.NoneTotal
import Derived.Maps.OwnOps
import Derived.Maps.OwnSet
import Derived.Maps.Views
import Derived.Deep.MidRow
import Derived.Deep.RegionHeld3
import Derived.Deep.AppendLies
import Derived.Deep.RegionLaw
import Derived.IntWalk
import Derived.StillTailTactics
import Derived.RegionTactic
import Derived.BigRegion
import Derived.ChangeAlike
import Derived.Sort.LotD2
import Derived.Sort.LotA
import Derived.Shelf.SlSortCmp.PdqK
import Derived.Deep.DeepCutAuto
import Derived.Lib.ItoaNum
import Derived.Deep.LoopGhost
import Derived.ProofKit
import Derived.OpenShut
import Derived.SizedLaws
import Derived.Lib.SmallJoins
import Derived.Deep.Slices
import Derived.Deep.Fields
import Derived.Deep.Strs
import Derived.Carry
import Derived.Lib.BitFns
import Derived.Deep.CutBlock
import Derived.Test.YtofibjflkebkpaaGreatDoorDT9
import Derived.Test.YtofibjflkebkpaaGreatDoorDT2
import Derived.Test.YtofibjflkebkpaaGreatDoorDT8
set_option maxRecDepth 100000
set_option maxHeartbeats 16000000
namespace Go.Proofs.YtofibjflkebkpaaGreatDoor
open Go.RowKit
theorem mH (Y N:Nat) (h1:Y<16777216) (h2:N<16777216):bC ((Y:Int),(N:Int))=if Y &&& N=0 then 0 else 6:=by
 unfold bC;rw [if_pos ⟨⟨by simp,by simpa using (by omega:(Y:Int)<16777216)⟩,by simp,by simpa using (by omega:(N:Int)<16777216)⟩];simp only [Int.toNat_natCast];by_cases h:Y &&& N=0
 ·rw [if_pos h,if_neg (by simpa using h)]
 ·rw [if_neg h,if_pos h]
theorem rh (y n:Int) (w:World):Calls Tryz.prog 208 #[.agg #[.int .i64 y,.int .i64 n]] w fun e w'=>e=.returned (bI (bC (y,n)))/\af w w':=by
 by_cases h1:0<=y
 ·by_cases h2:y<16777216
  ·by_cases h3:0<=n
   ·by_cases h4:n<16777216
    ·obtain ⟨Y,rfl⟩:=Int.eq_ofNat_of_zero_le h1;obtain ⟨N,rfl⟩:=Int.eq_ofNat_of_zero_le h3;rw [mH Y N (by omega) (by omega)];have p:=cR Y N (by omega) (by omega);obtain ⟨z,hz⟩:∃ z,z=Y &&& N:=⟨_,rfl⟩;rw [<-hz] at p⊢;have h2':(Y:Int)<=16777215:=by omega
     have h4':(N:Int)<=16777215:=by omega
     clear hz;by_cases h0:z=0
     ·subst h0;rw [if_pos (Eq.refl 0)];go_enter Tryz.func208,Tryz.ntmps208;go_wp2;go_ret;exact ⟨rfl,(af.refl _).alloc _⟩
     ·have hz0:¬ (z:Int)=0:=by omega
      have hz1:((z:Int) != 0)=true:=by simp;omega
      rw [if_neg h0];go_enter Tryz.func208,Tryz.ntmps208;go_wp2;go_ret;exact ⟨by rfl,(af.refl _).alloc _⟩
    ·have hb:bC (y,n)=3:=by unfold bC;rw [if_neg (by simp only [];omega)]
     have h4':¬ n<=16777215:=by omega
     have h2':y<=16777215:=by omega
     rw [hb];go_enter Tryz.func208,Tryz.ntmps208;go_wp2;go_ret;exact ⟨by rfl,(af.refl _).alloc _⟩
   ·have hb:bC (y,n)=3:=by unfold bC;rw [if_neg (by simp only [];omega)]
    have h2':y<=16777215:=by omega
    rw [hb];go_enter Tryz.func208,Tryz.ntmps208;go_wp2;go_ret;exact ⟨by rfl,(af.refl _).alloc _⟩
  ·have hb:bC (y,n)=3:=by unfold bC;rw [if_neg (by simp only [];omega)]
   have h2':¬ y<=16777215:=by omega
   rw [hb];go_enter Tryz.func208,Tryz.ntmps208;go_wp2;go_ret;exact ⟨by rfl,(af.refl _).alloc _⟩
 ·have hb:bC (y,n)=3:=by unfold bC;rw [if_neg (by simp only [];omega)]
  rw [hb];go_enter Tryz.func208,Tryz.ntmps208;go_wp2;go_ret;exact ⟨by rfl,(af.refl _).alloc _⟩
theorem mA (y n:Int) (w:World):Calls Tryz.prog 252 #[.agg #[.int .i64 y,.int .i64 n]] w fun e w'=>e=.returned (.int .i64 (bC (y,n):Nat))/\af w w':=by
 by_cases h1:0<=y
 ·by_cases h2:y<16777216
  ·by_cases h3:0<=n
   ·by_cases h4:n<16777216
    ·obtain ⟨Y,rfl⟩:=Int.eq_ofNat_of_zero_le h1;obtain ⟨N,rfl⟩:=Int.eq_ofNat_of_zero_le h3;rw [mH Y N (by omega) (by omega)];have p:=cR Y N (by omega) (by omega);obtain ⟨z,hz⟩:∃ z,z=Y &&& N:=⟨_,rfl⟩;rw [<-hz] at p⊢;have h2':(Y:Int)<=16777215:=by omega
     have h4':(N:Int)<=16777215:=by omega
     clear hz;by_cases h0:z=0
     ·subst h0;rw [if_pos (Eq.refl 0)];go_enter Tryz.func252,Tryz.ntmps252;go_wp2;go_ret;exact ⟨rfl,(af.refl _).alloc _⟩
     ·have hz0:¬ (z:Int)=0:=by omega
      have hz1:((z:Int) != 0)=true:=by simp;omega
      rw [if_neg h0];go_enter Tryz.func252,Tryz.ntmps252;go_wp2;go_ret;exact ⟨by rfl,(af.refl _).alloc _⟩
    ·have hb:bC (y,n)=3:=by unfold bC;rw [if_neg (by simp only [];omega)]
     have h4':¬ n<=16777215:=by omega
     have h2':y<=16777215:=by omega
     rw [hb];go_enter Tryz.func252,Tryz.ntmps252;go_wp2;go_ret;exact ⟨by rfl,(af.refl _).alloc _⟩
   ·have hb:bC (y,n)=3:=by unfold bC;rw [if_neg (by simp only [];omega)]
    have h2':y<=16777215:=by omega
    rw [hb];go_enter Tryz.func252,Tryz.ntmps252;go_wp2;go_ret;exact ⟨by rfl,(af.refl _).alloc _⟩
  ·have hb:bC (y,n)=3:=by unfold bC;rw [if_neg (by simp only [];omega)]
   have h2':¬ y<=16777215:=by omega
   rw [hb];go_enter Tryz.func252,Tryz.ntmps252;go_wp2;go_ret;exact ⟨by rfl,(af.refl _).alloc _⟩
 ·have hb:bC (y,n)=3:=by unfold bC;rw [if_neg (by simp only [];omega)]
  rw [hb];go_enter Tryz.func252,Tryz.ntmps252;go_wp2;go_ret;exact ⟨by rfl,(af.refl _).alloc _⟩
theorem oZ {L:List (Int × Int)} {k:Nat} (hk:k<L.length) (h:∀ c∈L.take k,bC c=0) (hq:bC (L.getD k default)≠0):cS L=bC (L.getD k default):=by
 have e:L.getD k default=L[k]:=by simp [List.getD_eq_getElem?_getD,hk]
 rw [e] at hq⊢;have h1:L=L.take k++L[k] :: L.drop (k+1):=by rw [<-List.drop_eq_getElem_cons hk,List.take_append_drop]
 conv=>lhs;rw [h1]
 rw [tH _ _ (gm h),cS,if_pos hq]
theorem ro (v:Value) (L:List (Int × Int)) (w:World) (hv:aY w v L):Calls Tryz.prog 143 #[v] w fun e w'=>e=.returned (bI (fq L))/\af w w':=by
 have HV:=ae hv;obtain ⟨a,c,rfl⟩:=hv.shape;have hl:=hv.len;obtain ⟨n,hn⟩:∃ n,n=L.length:=⟨_,rfl⟩;rw [<-hn] at HV hl⊢;obtain ⟨q,hq⟩:∃ q,q=fq L:=⟨_,rfl⟩;rw [<-hq];have HQ:Hid (q=if 1024<n then 4 else if cS L≠0 then cS L else if gz L n=true then 21 else 0):=ae (by rw [hq,hn];rfl);have HN:=ae hn;have HCC:Hid (∀ c:Int × Int,∀ W,Calls Tryz.prog 208 #[.agg #[.int .i64 c.1,.int .i64 c.2]] W fun e w'=>e=.returned (bI (bC c))/\af W w'):=ae fun c W=>rh c.1 c.2 W
 have hcn:¬ (c:Int)<(n:Int):=by
  obtain ⟨_,_,he,⟨h2,_⟩,_⟩:=hv;injection he with _ h3 h4
  omega
 have HCN:Hid (n<=c):=ae (by omega);clear hv hq hn hcn;by_cases h9:1024<n
 ·have h9':(1024:Int)<(n:Int):=by omega
  have hq4:q=4:=by have h:=HQ.out;rw [if_pos h9] at h;exact h
  subst hq4;go_enter Tryz.func143,Tryz.ntmps143;go_wp2;go_ret;exact ⟨rfl,af.refl _⟩
 ·have h9':¬ (1024:Int)<(n:Int):=by omega
  have HQ2:Hid (q=if cS L≠0 then cS L else if gz L n=true then 21 else 0):=ae (by have h:=HQ.out;rw [if_neg h9] at h;exact h);go_enter Tryz.func143,Tryz.ntmps143;go_wp2_with fail;go_loopg [16] n (fun kx s16 wr=>∃ k:Nat,k<=n/\s16=.int .i64 k/\n - k<=kx/\Hid (∀ c∈L.take k,bC c=0)/\Hid (af w wr))
  case atStart=>exact ⟨0,Nat.zero_le _,rfl,by omega,ae (by simp),ae (af.refl _)⟩
  case round =>
   obtain ⟨k,hk,rfl,hkx,HF,HK⟩:=hrel;by_cases hlt:k<n
   ·have hkl:k<L.length:=by have:=HN.out;omega
    have hki:(k:Int)<(n:Int):=by omega
    obtain ⟨b,o,rfl,g1,g2⟩:=HV.out.get k hkl;have x1:=HK.out.cell g1;have x2:=HK.out.cell g2;rw [<-Nat.add_assoc] at x2;obtain ⟨d,hd⟩:∃ d,d=L.getD k default:=⟨_,rfl⟩;rw [<-hd] at x1 x2;have HD:=ae hd;have HCD:=ae (HCC.out d);obtain ⟨z,hz⟩:∃ z,z=bC d:=⟨_,rfl⟩;have HZ:=ae hz;rw [<-hz] at HCD;clear g1 g2 hd hz;by_cases hz0:z=0
    ·subst hz0;rw [dd] at HCD;obtain ⟨W1,rfl⟩:∃ W1:World,W1=wr:=⟨_,rfl⟩;go_wp2_with (go_at_call 208;refine (HCD.out _).mono ?_;rintro e w2 ⟨rfl,hk2⟩;have HK2:=ae (((af.refl W1).alloc _).trans hk2);clear hk2);go_roundg (n - (k+1))
     case measure=>omega
     case rel =>
      refine ⟨k+1,by omega,by go_num,Nat.le_refl _,ae fun c hc=>?_,ae (HK.out.trans HK2.out)⟩;rw [List.take_succ_eq_append_getElem hkl] at hc;rcases List.mem_append.1 hc with hc | hc
      ·exact HF.out c hc
      ·rw [List.mem_singleton] at hc;have e:L.getD k default=L[k]:=by simp [List.getD_eq_getElem?_getD,hkl]
       rw [hc,<-e,<-HD.out,<-HZ.out]
    ·rw [bJ hz0] at HCD
     have HR:Hid (q=z):=ae (by
      have h:=HQ2.out;have e:=oZ hkl HF.out (by rw [<-HD.out,<-HZ.out];exact hz0);rw [<-HD.out,<-HZ.out] at e;rw [e,if_pos hz0] at h;exact h)
     obtain ⟨W1,rfl⟩:∃ W1:World,W1=wr:=⟨_,rfl⟩;go_wp2_with (go_at_call 208;refine (HCD.out _).mono ?_;rintro e w2 ⟨rfl,hk2⟩;have HK2:=ae (((af.refl W1).alloc _).trans hk2);clear hk2);go_ret;exact ⟨by rw [HR.out,bJ hz0];rfl,HK.out.trans HK2.out⟩
   ·have hki:¬ (k:Int)<(n:Int):=by omega
    have HA:Hid (∀ i,i<n->∃ Y N:Nat,L.getD i default=((Y:Int),(N:Int))/\Y<16777216/\N<16777216):=ae fun i hi=>by
     have hil:i<L.length:=by have:=HN.out;omega
     have e:L.getD i default=L[i]:=by simp [List.getD_eq_getElem?_getD,hil]
     have h0:=HF.out L[i] (by rw [List.take_of_length_le (by have:=HN.out;omega)];exact List.getElem_mem hil);obtain ⟨⟨h1,h2,_⟩,h4⟩:=dV h0;exact ⟨_,_,by rw [e];exact h4,h1,h2⟩
    have HQ3:Hid (q=if gz L n=true then 21 else 0):=ae (by
     have h:=HQ2.out;rw [gm (L:=L) (fun c hc=>HF.out c (by rw [List.take_of_length_le (by have:=HN.out;omega)];exact hc)),if_neg (by simp)] at h;exact h)
    go_wp2_with fail;obtain ⟨w2,rfl⟩:∃ w2:World,w2=wr:=⟨_,rfl⟩;go_loopg [28] n (fun ix s28 wi=>∃ i:Nat,i<=n/\s28=.int .i64 i/\n - i<=ix/\Hid (gz L i=false)/\Hid (af w wi))
    case atStart=>exact ⟨0,Nat.zero_le _,rfl,by omega,ae rfl,HK⟩
    case round =>
     obtain ⟨i,hi,rfl,hix,HM,HKI⟩:=hrel;by_cases hil:i<n
     ·have hii:(i:Int)<(n:Int):=by omega
      have hilen:i<L.length:=by have:=HN.out;omega
      obtain ⟨Y,N,e1,hY,hN⟩:=HA.out i hil;obtain ⟨b,o,rfl,g1,g2⟩:=HV.out.get i hilen;rw [e1] at g1 g2;have x1:=HKI.out.cell g1;have x2:=HKI.out.cell g2;rw [<-Nat.add_assoc] at x2;have HE:=ae e1;have hic:¬ (c:Int)<(i:Int):=by have:=HCN.out;omega
      have hic2:(i:Int)<=(c:Int):=by have:=HCN.out;omega
      have hi0:¬ (i:Int)<0:=by omega
      clear g1 g2 e1;go_wp2_with fail;obtain ⟨wo,rfl⟩:∃ wo:World,wo=wr:=⟨_,rfl⟩;obtain ⟨w5,hw5⟩:∃ w5,w5=wo.alloc (.cells #[.int .i64 Y,.int .i64 N] 114):=⟨_,rfl⟩;have hr5:=ai.made wo #[.int .i64 (Y:Int),.int .i64 (N:Int)] 114;have HK5:Hid (af wo w5):=ae (by rw [hw5];exact (af.refl wo).alloc _);rw [<-hw5] at hr5⊢;have HR5:=ae hr5;clear hw5 hr5;go_loopg [37] i (fun jx s37 W=>∃ j:Nat,j<=i/\s37=.int .i64 j/\i - j<=jx/\Hid (metC L i j=false)/\Hid (af w5 W))
      case atStart=>exact ⟨0,Nat.zero_le _,rfl,by omega,ae rfl,ae (af.refl _)⟩
      case round =>
       obtain ⟨j,hj,rfl,hjx,HMJ,HKJ⟩:=hrel;by_cases hjl:j<i
       ·have hji:(j:Int)<(i:Int):=by omega
        have hjlen:j<L.length:=by omega
        obtain ⟨Y2,N2,f1,hY2,hN2⟩:=HA.out j (by omega);obtain ⟨b',o',he',k1,k2⟩:=HV.out.get j hjlen;cases he';rw [f1] at k1 k2;have HKK:=ae (HKI.out.trans (HK5.out.trans HKJ.out));have z1:=HKK.out.cell k1;have z2:=HKK.out.cell k2;rw [<-Nat.add_assoc] at z2;have y1:=(HR5.out.kept HKJ.out).cell (i:=0) (by simp);have y2:=(HR5.out.kept HKJ.out).cell (i:=1) (by simp);simp only [List.getElem_cons_succ,List.getElem_cons_zero] at y1 y2;have p1:=cR Y N2 (by omega) (by omega);have p2:=cR N Y2 (by omega) (by omega)
        have HST:Hid (metC L i (j+1)=((Y &&& N2 == 0)&&(N &&& Y2 == 0))):=ae (by
         rw [nd,HMJ.out,HE.out,f1];rfl)
        have hlt5:=(HR5.out.kept HKJ.out).lt;obtain ⟨t1,ht1⟩:∃ t1,t1=Y &&& N2:=⟨_,rfl⟩;obtain ⟨t2,ht2⟩:∃ t2,t2=N &&& Y2:=⟨_,rfl⟩;rw [<-ht1] at p1 HST;rw [<-ht2] at p2 HST;clear k1 k2 f1 ht1 ht2;obtain ⟨W1,rfl⟩:∃ W1:World,W1=wr:=⟨_,rfl⟩;by_cases c1:t1=0
        ·subst c1;by_cases c2:t2=0
         ·subst c2
          have HR:Hid (q=21):=ae (by
           have h:=HQ3.out;rw [if_pos] at h
           ·exact h
           ·unfold gz;rw [List.any_eq_true];refine ⟨i,by simpa using hil,?_⟩;have h2:metC L i (j+1)=true:=by rw [HST.out];rfl
            unfold metC at h2⊢;obtain ⟨m,hm,h3⟩:=List.any_eq_true.1 h2;exact List.any_eq_true.2 ⟨m,by simp at hm⊢;omega,h3⟩)
          go_wp2;go_ret;exact ⟨by rw [HR.out];rfl,HKK.out.alloc _⟩
         ·have c2':¬ (t2:Int)=0:=by omega
          have c2'':((t2:Int) == 0)=false:=by simpa using c2'
          have HST2:Hid (metC L i (j+1)=false):=ae (by rw [HST.out];simp [c2]);go_wp2;go_roundg (i - (j+1))
          case measure=>omega
          case rel=>exact ⟨j+1,by omega,by go_num,Nat.le_refl _,HST2,ae (HKJ.out.alloc _)⟩
        ·have c1':¬ (t1:Int)=0:=by omega
         have c1'':((t1:Int) == 0)=false:=by simpa using c1'
         have HST2:Hid (metC L i (j+1)=false):=ae (by rw [HST.out];simp [c1]);go_wp2;go_roundg (i - (j+1))
         case measure=>omega
         case rel=>exact ⟨j+1,by omega,by go_num,Nat.le_refl _,HST2,ae (HKJ.out.alloc _)⟩
       ·have hji:¬ (j:Int)<(i:Int):=by omega
        have HMI:Hid (gz L (i+1)=false):=ae (by
         have hje:j=i:=by omega
         rw [hje] at HMJ;rw [ne,HM.out,HMJ.out];rfl)
        go_wp2;go_roundg (n - (i+1))
        case measure=>omega
        case rel=>exact ⟨i+1,by omega,by go_num,Nat.le_refl _,HMI,ae (HKI.out.trans (HK5.out.trans HKJ.out))⟩
     ·have hii:¬ (i:Int)<(n:Int):=by omega
      have HR:Hid (q=0):=ae (by
       have hie:i=n:=by omega
       have h:=HQ3.out;rw [<-hie,HM.out,if_neg (by simp)] at h;exact h)
      go_wp2;go_ret;exact ⟨by rw [HR.out];rfl,HKI.out⟩
theorem jV {ps:List Rw} (hs:∀ r∈ps,r.Short 3) {k:Nat} (hk:k<ps.length):(ps.getD k default).Short 3:=by
 have e:ps.getD k default=ps[k]:=by simp [List.getD_eq_getElem?_getD,hk]
 rw [e];exact hs _ (List.getElem_mem hk)
theorem rW {ps:List Rw} (hs:∀ r∈ps,r.Ok) {k:Nat} (hk:k<ps.length):(ps.getD k default).Ok:=by
 have e:ps.getD k default=ps[k]:=by simp [List.getD_eq_getElem?_getD,hk]
 rw [e];exact hs _ (List.getElem_mem hk)
theorem jZ:al (aj ((1:Int):Rat))=1:=by rw [aA];rfl
theorem nj {ps:List Rw} (hs:∀ r∈ps,r.Short 3) (hok:∀ r∈ps,r.Ok) {k:Nat} (hk:k<ps.length):(aj (1 - dQ ps k)).Short 6:=by
 have h1:=fK (rW hok hk) (jV hs hk) (by omega);have h:=gS (dc ((1:Int):Rat)) (dc (- al (ps.getD k default))) de h1 (by omega) (by omega);rw [jZ,aA,<-Rat.sub_eq_add_neg] at h;exact ⟨Nat.le_trans h.1 (by omega),Nat.le_trans h.2 (by omega)⟩
theorem pl (y n:Nat) (v:Value) (ps:List Rw) (w:World) (hy:y<16777216) (hn:n<16777216) (hv:RatsAt w v ps) (hp3:∀ r∈ps,r.Short 3) (hp30:ps.length<=30) :
  Calls Tryz.prog 123 #[.agg #[.int .i64 y,.int .i64 n],v] w fun e w'=>(∃ v',e=.returned v'/\RatAt w' v' (aj (dD ps (y,n) ps.length)))/\af w w':=by
 have HOF:Hid (∀ W,Calls Tryz.prog 96 #[.int .i64 1] W fun e w'=>(∃ v',e=.returned v'/\RatAt w' v' (aj ((1:Int):Rat)))/\af W w'):=ae fun W=>yW 1 W (by omega) (by omega)
 have HHY:=ae (fun (i:Nat) W=>lw y i hy W);have HHN:=ae (fun (i:Nat) W=>lw n i hn W);have HSH:=ae (fun k hk=>gH (c:=(y,n)) hp3 hv.ok k hk);have HP3:=ae hp3;have HOK:=ae hv.ok;have HV:=ae hv;obtain ⟨a,c,rfl⟩:=hv.shape;obtain ⟨m,hm⟩:∃ m,m=ps.length:=⟨_,rfl⟩;rw [<-hm] at HV hp30⊢;have HN:=ae hm;obtain ⟨R,hR⟩:∃ R,R=aj (dD ps (y,n) m):=⟨_,rfl⟩;rw [<-hR];have HRR:=ae hR;obtain ⟨w2,hw2⟩:∃ w2,w2=(w.alloc (.cells #[.int .i64 y,.int .i64 n] 114)).alloc (.cells #[.bool false,.slice none 0 0,.slice none 0 0] 29):=⟨_,rfl⟩;have hbx:=(ai.made w #[.int .i64 (y:Int),.int .i64 (n:Int)] 114).kept ((af.refl _).alloc (.cells #[.bool false,.slice none 0 0,.slice none 0 0] 29));have HMD:=ae (jz w (.cells #[.int .i64 y,.int .i64 n] 114));rw [<-hw2] at hbx HMD;have HW2:=ae hw2;have b0:=hbx.cell (i:=0) (by simp);have b1:=hbx.cell (i:=1) (by simp);simp only [List.getElem_cons_succ,List.getElem_cons_zero] at b0 b1;have HBB:=ae (And.intro b0 b1);clear hm hv hp3 hy hn hw2 hbx hR b0 b1;go_enter Tryz.func123,Tryz.ntmps123;go_wp2_with fail;rw [<-HW2.out];refine (HOF.out _).mono ?_;rintro e w3 ⟨⟨v3,rfl,hv3⟩,hk3⟩;have HR3:=ae (HMD.out.1.kept hk3);have HF3:=ae (HMD.out.2.1.kept hk3);have HK3:=ae (HMD.out.2.2.trans hk3);have HC3:=ae (And.intro (hk3.cell HBB.out.1) (hk3.cell HBB.out.2))
 obtain ⟨u1,u2,rfl,h1,h2⟩:=hv3;obtain ⟨a1,c1,rfl⟩:=h1.shape;obtain ⟨a2,c2,rfl⟩:=h2.shape;have HC:Hid (RatCell (w3.alloc (.cells #[.bool (aj ((1:Int):Rat)).neg,.slice a1 (aj ((1:Int):Rat)).num.length c1,.slice a2 (aj ((1:Int):Rat)).den.length c2] 29)) w3.heap.size (aj (dD ps (y,n) 0))):=ae (RatCell.made h1 h2);obtain ⟨w4,hw4⟩:∃ w4,w4=w3.alloc (.cells #[.bool (aj ((1:Int):Rat)).neg,.slice a1 (aj ((1:Int):Rat)).num.length c1,.slice a2 (aj ((1:Int):Rat)).den.length c2] 29):=⟨_,rfl⟩;have HW4:=ae hw4;rw [<-hw4] at HC;have HK4:Hid (af w3 w4):=ae (by rw [hw4];exact (af.refl _).alloc _);generalize hg1:(aj ((1:Int):Rat)).neg=o1 at HW4⊢;generalize hg2:(aj ((1:Int):Rat)).num.length=o2 at HW4⊢;generalize hg3:(aj ((1:Int):Rat)).den.length=o3 at HW4⊢;clear h1 h2 hk3 hw4 hg1 hg2 hg3;go_wp2_with fail;rw [<-HW4.out];go_loopg [11] m (fun kx s11 wr=>∃ k:Nat,k<=m/\s11=.int .i64 k/\m - k<=kx/\Hid (RatCell wr w3.heap.size (aj (dD ps (y,n) k)))/\Hid (af w3 wr))
 case atStart=>exact ⟨0,Nat.zero_le _,rfl,by omega,HC,HK4⟩
 case round =>
  obtain ⟨k,hk,rfl,hkx,HX,HKr⟩:=hrel;by_cases hlt:k<m
  ·have hkn:(k:Int)<(m:Int):=by omega
   have hkl:k<ps.length:=by have:=HN.out;omega
   have HQS:=ae (jV HP3.out hkl);have HNS:=ae (nj HP3.out HOK.out hkl);have HXS:=ae (HSH.out k (by omega));obtain ⟨b,o,u1,u2,rfl,hrg,hw1,hw2⟩:=HV.out.get k hkl;obtain ⟨a3,c3,rfl⟩:=hw1.shape;obtain ⟨a4,c4,rfl⟩:=hw2.shape;have HKw:=ae (HK3.out.trans HKr.out);have hrg2:=dv hrg HKw.out;have y0:=hrg2 0 _ rfl;have y1:=hrg2 1 _ rfl;have y2:=hrg2 2 _ rfl;rw [Nat.add_zero] at y0;obtain ⟨qn,hqn⟩:∃ qn,qn=(ps.getD k default).neg:=⟨_,rfl⟩;obtain ⟨ql1,hql1⟩:∃ ql1,ql1=(ps.getD k default).num.length:=⟨_,rfl⟩;obtain ⟨ql2,hql2⟩:∃ ql2,ql2=(ps.getD k default).den.length:=⟨_,rfl⟩;have HQV:Hid (∀ W,af w3 W->RatAt W (.agg #[.bool qn,.slice a3 ql1 c3,.slice a4 ql2 c4]) (ps.getD k default)):=ae fun W h=>⟨_,_,by rw [hqn,hql1,hql2],hw1.kept (HK3.out.trans h),hw2.kept (HK3.out.trans h)⟩
   rw [<-hqn] at y0;rw [<-hql1] at y1;rw [<-hql2] at y2
   have HSB:Hid (∀ W u1 u2,RatAt W u1 (aj ((1:Int):Rat))->RatAt W u2 (ps.getD k default)->Calls Tryz.prog 70 #[u1,u2] W fun e w'=>(∃ v',e=.returned v'/\RatAt w' v' (aj (1 - dQ ps k)))/\af W w'):=ae fun W u1 u2 h1 h2=>by
    have h:=xI u1 u2 _ _ W h1 h2 ⟨Nat.le_trans de.1 (by omega),Nat.le_trans de.2 (by omega)⟩ ⟨Nat.le_trans HQS.out.1 (by omega),Nat.le_trans HQS.out.2 (by omega)⟩;rw [jZ] at h;exact h
   have k0:=HKr.out.cell HC3.out.1;obtain ⟨wo,rfl⟩:∃ wo:World,wo=wr:=⟨_,rfl⟩;obtain ⟨w5,hw5⟩:∃ w5,w5=wo.alloc (.cells #[.bool qn,.slice a3 ql1 c3,.slice a4 ql2 c4] 29):=⟨_,rfl⟩;have HK5:Hid (af wo w5):=ae (by rw [hw5];exact (af.refl _).alloc _);have HX5:=ae (HX.out.kept HK5.out);have HQ5:Hid (ai w5 wo.heap.size 29 [.bool qn,.slice a3 ql1 c3,.slice a4 ql2 c4]):=ae (by rw [hw5];exact ai.made wo #[.bool qn,.slice a3 ql1 c3,.slice a4 ql2 c4] 29);have HK35:=ae (HKr.out.trans HK5.out);have HNE:Hid (wo.heap.size≠w3.heap.size):=ae (by have:=HX.out;obtain ⟨_,_,_,_,h,_⟩:=this;have:=h.lt;omega);have k01:=HKr.out.cell HC3.out.2;have k05:=HK5.out.cell k0;have k15:=HK5.out.cell k01;have hc3:=World.block_lt_of_cell? _ _ HC3.out.1;have hcl5:=World.block_lt_of_cell? _ _ k05;have HW5:=ae hw5;clear hrg hrg2 hw1 hw2 hqn hql1 hql2 hw5;have hcl0:=World.block_lt_of_cell? _ _ k0;cases hb1:y.testBit k with
   | false =>
    have HCH1:Hid (∀ W,Calls Tryz.prog 98 #[.int .i64 y,.int .i64 k] W fun e w'=>e=.returned (.bool false)/\w'=W):=ae fun W=>by have h:=HHY.out k W;rw [hb1] at h;exact h
    obtain ⟨Yk,hYk⟩:∃ Yk,Yk=dD ps (y,n) k:=⟨_,rfl⟩
    have HS2:Hid (dD ps (y,n) (k+1)=Yk*if n.testBit k=true then 1 - dQ ps k else 1):=ae (by
     rw [hYk];show (wQ (dQ ps) (y,n) k*(if y.testBit k=true then dQ ps k else 1))*_=_;rw [if_neg (by rw [hb1];simp),Rat.mul_one];rfl)
    have HYS:Hid ((aj Yk).Short (12*k+7)):=ae (by rw [hYk];exact ⟨Nat.le_trans HXS.out.1 (by omega),Nat.le_trans HXS.out.2 (by omega)⟩);rw [<-hYk] at HX5;have HXW:=HX5;have HKX:=HK35;have HQW:=HQ5;clear hb1 hYk;go_wp2_with (go_at_call 98;(with_reducible refine (HCH1.out _).mono ?_);rintro e w6 ⟨rfl,h6⟩;rw [h6,<-HW5.out];clear h6);obtain ⟨a5,c5,a6,c6,⟨x0,x1,x2⟩,⟨f0,f1,f2⟩,hgl,hxa⟩:=HXW.out.at;have HXA:=ae hxa;have q0:=HQW.out.cell (i:=0) (by simp);have q1:=HQW.out.cell (i:=1) (by simp);have q2:=HQW.out.cell (i:=2) (by simp);simp only [List.getElem_cons_succ,List.getElem_cons_zero] at q0 q1 q2;have hql:=HQW.out.lt;have k1:=HKX.out.cell HC3.out.2;have hcl:=World.block_lt_of_cell? _ _ k1;generalize (aj Yk).neg=z3 at *;generalize (aj Yk).num.length=z4 at *;generalize (aj Yk).den.length=z5 at *;clear hxa;cases hb2:n.testBit k with
    | false =>
     have HCH2:Hid (∀ W,Calls Tryz.prog 98 #[.int .i64 n,.int .i64 k] W fun e w'=>e=.returned (.bool false)/\w'=W):=ae fun W=>by have h:=HHN.out k W;rw [hb2] at h;exact h
     have HE:Hid (aj (dD ps (y,n) (k+1))=aj Yk):=ae (by rw [HS2.out,if_neg (by rw [hb2];simp),Rat.mul_one]);clear hb2;refine (HCH2.out _).mono ?_;rintro e w8 ⟨rfl,h8⟩;rw [h8];clear h8;go_wp2_with fail;go_roundg (m - (k+1))
     case measure=>omega
     case rel=>exact ⟨k+1,by omega,by go_num,Nat.le_refl _,ae (by rw [HE.out];exact HXW.out),HKX⟩
    | true =>
     have HCH2:Hid (∀ W,Calls Tryz.prog 98 #[.int .i64 n,.int .i64 k] W fun e w'=>e=.returned (.bool true)/\w'=W):=ae fun W=>by have h:=HHN.out k W;rw [hb2] at h;exact h
     have HE:Hid (aj (dD ps (y,n) (k+1))=aj (al (aj Yk)*al (aj (1 - dQ ps k)))):=ae (by rw [HS2.out,if_pos hb2,aA,aA])
     have HM2:Hid (∀ W u1 u2,RatAt W u1 (aj Yk)->RatAt W u2 (aj (1 - dQ ps k))->Calls Tryz.prog 97 #[u1,u2] W fun e w'=>(∃ v',e=.returned v'/\RatAt w' v' (aj (dD ps (y,n) (k+1))))/\af W w'):=ae fun W u1 u2 h1 h2=>by
      rw [HE.out];exact lX u1 u2 _ _ W h1 h2 ⟨Nat.le_trans HYS.out.1 (by omega),Nat.le_trans HYS.out.2 (by omega)⟩ ⟨Nat.le_trans HNS.out.1 (by omega),Nat.le_trans HNS.out.2 (by omega)⟩
     clear hb2;have HQR:Hid (∀ W,af w5 W->RatAt W (.agg #[.bool qn,.slice a3 ql1 c3,.slice a4 ql2 c4]) (ps.getD k default)):=ae fun W h=>HQV.out W (HKX.out.trans h)
     refine (HCH2.out _).mono ?_;rintro e w8 ⟨rfl,h8⟩;rw [h8];clear h8;go_wp2_with fail
     go_region_with (first
      | (go_at_call 96;(with_reducible refine (HOF.out _).mono ?_);rintro e w8 ⟨⟨v8,rfl,hv8⟩,hk8⟩;have hkd:=(af.refl w5).drew.trans hk8;have i0:=hkd.cell x0;have i1:=hkd.cell x1;have i2:=hkd.cell x2;have j0:=hkd.cell q0;have j1:=hkd.cell q1;have j2:=hkd.cell q2;have HX8:=ae (HXW.out.kept hkd);have HXA8:=ae (HXA.out.kept hkd);have HQ8:=ae (HQR.out _ hkd);have HK8:=ae (HKX.out.trans hkd);have HV8:=ae hv8;clear hk8 hkd hv8)
      | (go_at_call 70;(with_reducible refine (HSB.out _ _ _ HV8.out HQ8.out).mono ?_);rintro e w9 ⟨⟨v9,rfl,hv9⟩,hk9⟩;have l0:=hk9.cell i0;have l1:=hk9.cell i1;have l2:=hk9.cell i2;have HX9:=ae (HX8.out.kept hk9);have HXA9:=ae (HXA8.out.kept hk9);have HK9:=ae (HK8.out.trans hk9);have HV9:=ae hv9;clear hk9 hv9)
      | (go_at_call 97;(with_reducible refine (HM2.out _ _ _ HXA9.out HV9.out).mono ?_);rintro e w7 ⟨⟨v7,rfl,hv7⟩,hk7⟩;have HX7:=ae (HX9.out.kept hk7);have HK7:=ae (HK9.out.trans hk7);obtain ⟨u7,u8,rfl,k7,k8⟩:=hv7;obtain ⟨a7,c7,rfl⟩:=k7.shape;obtain ⟨a8,c8,rfl⟩:=k8.shape;have K7:=ae k7;have K8:=ae k8;obtain ⟨_,_,_,_,⟨t0,t1,t2⟩,⟨j0,j1,j2⟩,hgl6,_⟩:=HX7.out.at;clear k7 k8 hk7))
     all_goals
      have HS:=ae (HX7.out.store K7.out K8.out);generalize (aj (dD ps (y,n) (k+1))).num.length=n7 at *;generalize (aj (dD ps (y,n) (k+1))).den.length=n8 at *;go_wp2_with fail;go_roundg (m - (k+1))
      case measure=>omega
      case rel=>exact ⟨k+1,by omega,by go_num,Nat.le_refl _,HS,ae (((HK7.out.store (Nat.le_refl _) _ _).store (Nat.le_refl _) _ _).store (Nat.le_refl _) _ _)⟩
   | true =>
    have HCH1:Hid (∀ W,Calls Tryz.prog 98 #[.int .i64 y,.int .i64 k] W fun e w'=>e=.returned (.bool true)/\w'=W):=ae fun W=>by have h:=HHY.out k W;rw [hb1] at h;exact h
    obtain ⟨Yk,hYk⟩:∃ Yk,Yk=dD ps (y,n) k*dQ ps k:=⟨_,rfl⟩
    have HS2:Hid (dD ps (y,n) (k+1)=Yk*if n.testBit k=true then 1 - dQ ps k else 1):=ae (by
     rw [hYk];show (wQ (dQ ps) (y,n) k*(if y.testBit k=true then dQ ps k else 1))*_=_;rw [if_pos hb1];rfl)
    have HYS:Hid ((aj Yk).Short (12*k+7)):=ae (by
     have h:=gT (dc (dD ps (y,n) k)) (rW HOK.out hkl) HXS.out HQS.out (by omega) (by omega);rw [aA] at h;rw [hYk];exact ⟨Nat.le_trans h.1 (by omega),Nat.le_trans h.2 (by omega)⟩)
    have HM1:Hid (∀ W u1 u2,RatAt W u1 (aj (dD ps (y,n) k))->RatAt W u2 (ps.getD k default)->Calls Tryz.prog 97 #[u1,u2] W fun e w'=>(∃ v',e=.returned v'/\RatAt w' v' (aj Yk))/\af W w'):=ae fun W u1 u2 h1 h2=>by
     have h:=lX u1 u2 _ _ W h1 h2 ⟨Nat.le_trans HXS.out.1 (by omega),Nat.le_trans HXS.out.2 (by omega)⟩ ⟨Nat.le_trans HQS.out.1 (by omega),Nat.le_trans HQS.out.2 (by omega)⟩;rw [aA] at h;rw [hYk];exact h
    obtain ⟨a5,c5,a6,c6,⟨x0,x1,x2⟩,⟨f0,f1,f2⟩,hgl,hxa⟩:=HX5.out.at;have HXA:=ae hxa;have q0:=HQ5.out.cell (i:=0) (by simp);have q1:=HQ5.out.cell (i:=1) (by simp);have q2:=HQ5.out.cell (i:=2) (by simp);simp only [List.getElem_cons_succ,List.getElem_cons_zero] at q0 q1 q2;have HQR:=ae (HQV.out w5 HK35.out);generalize (aj (dD ps (y,n) k)).neg=z0 at *;generalize (aj (dD ps (y,n) k)).num.length=z1 at *;generalize (aj (dD ps (y,n) k)).den.length=z2 at *;clear hb1 hYk hxa;go_wp2_with (go_at_call 98;(with_reducible refine (HCH1.out _).mono ?_);rintro e w6 ⟨rfl,h6⟩;rw [h6,<-HW5.out];clear h6);refine (HM1.out _ _ _ HXA.out HQR.out).mono ?_;rintro e w6 ⟨⟨v6,rfl,hv6⟩,hk6⟩;have HX6:=ae (HX5.out.kept hk6);have HK6:=ae (HK35.out.trans hk6);have HQ6:=ae (HQ5.out.kept hk6);have k06:=hk6.cell k05;have k16:=hk6.cell k15;have hn3:¬ w.heap.size=w3.heap.size:=by omega
    obtain ⟨u7,u8,rfl,k7,k8⟩:=hv6;obtain ⟨a7,c7,rfl⟩:=k7.shape;obtain ⟨a8,c8,rfl⟩:=k8.shape;obtain ⟨_,_,_,_,⟨i0,i1,i2⟩,⟨j0,j1,j2⟩,hgl6,_⟩:=HX6.out.at;have HS:=ae (HX6.out.store k7 k8);have HKS:=ae (((HK6.out.store (Nat.le_refl _) 0 (.bool (aj Yk).neg)).store (Nat.le_refl _) 1 (.slice a7 (aj Yk).num.length c7)).store (Nat.le_refl _) 2 (.slice a8 (aj Yk).den.length c8));have HQS6:=ae ((aH.row ((((aH.refl w3.heap.size w6).store 0 (.bool (aj Yk).neg)).store 1 (.slice a7 (aj Yk).num.length c7)).store 2 (.slice a8 (aj Yk).den.length c8)) HQ6.out HNE.out));obtain ⟨w7,hw7⟩:∃ w7,w7=((w6.setCell ⟨w3.heap.size,0,none⟩ (.bool (aj Yk).neg)).setCell ⟨w3.heap.size,1,none⟩ (.slice a7 (aj Yk).num.length c7)).setCell ⟨w3.heap.size,2,none⟩ (.slice a8 (aj Yk).den.length c8):=⟨_,rfl⟩;rw [<-hw7] at HS HKS HQS6;have HW7:=ae hw7;have HXW:=HS;have HKX:=HKS;have HQW:=HQS6;generalize (aj Yk).neg=z6 at HW7⊢;generalize (aj Yk).num.length=z7 at HW7⊢;generalize (aj Yk).den.length=z8 at HW7⊢;clear k7 k8 hk6 hw7 x0 x1 x2 f0 f1 f2 hgl q0 q1 q2;go_wp2_with fail;rw [<-HW7.out];obtain ⟨a5,c5,a6,c6,⟨x0,x1,x2⟩,⟨f0,f1,f2⟩,hgl,hxa⟩:=HXW.out.at;have HXA:=ae hxa;have q0:=HQW.out.cell (i:=0) (by simp);have q1:=HQW.out.cell (i:=1) (by simp);have q2:=HQW.out.cell (i:=2) (by simp);simp only [List.getElem_cons_succ,List.getElem_cons_zero] at q0 q1 q2
    have hql:=HQW.out.lt;have k1:=HKX.out.cell HC3.out.2;have hcl:=World.block_lt_of_cell? _ _ k1;generalize (aj Yk).neg=z3 at *;generalize (aj Yk).num.length=z4 at *;generalize (aj Yk).den.length=z5 at *;clear hxa;cases hb2:n.testBit k with
    | false =>
     have HCH2:Hid (∀ W,Calls Tryz.prog 98 #[.int .i64 n,.int .i64 k] W fun e w'=>e=.returned (.bool false)/\w'=W):=ae fun W=>by have h:=HHN.out k W;rw [hb2] at h;exact h
     have HE:Hid (aj (dD ps (y,n) (k+1))=aj Yk):=ae (by rw [HS2.out,if_neg (by rw [hb2];simp),Rat.mul_one]);clear hb2;refine (HCH2.out _).mono ?_;rintro e w8 ⟨rfl,h8⟩;rw [h8];clear h8;go_wp2_with fail;go_roundg (m - (k+1))
     case measure=>omega
     case rel=>exact ⟨k+1,by omega,by go_num,Nat.le_refl _,ae (by rw [HE.out];exact HXW.out),HKX⟩
    | true =>
     have HCH2:Hid (∀ W,Calls Tryz.prog 98 #[.int .i64 n,.int .i64 k] W fun e w'=>e=.returned (.bool true)/\w'=W):=ae fun W=>by have h:=HHN.out k W;rw [hb2] at h;exact h
     have HE:Hid (aj (dD ps (y,n) (k+1))=aj (al (aj Yk)*al (aj (1 - dQ ps k)))):=ae (by rw [HS2.out,if_pos hb2,aA,aA])
     have HM2:Hid (∀ W u1 u2,RatAt W u1 (aj Yk)->RatAt W u2 (aj (1 - dQ ps k))->Calls Tryz.prog 97 #[u1,u2] W fun e w'=>(∃ v',e=.returned v'/\RatAt w' v' (aj (dD ps (y,n) (k+1))))/\af W w'):=ae fun W u1 u2 h1 h2=>by
      rw [HE.out];exact lX u1 u2 _ _ W h1 h2 ⟨Nat.le_trans HYS.out.1 (by omega),Nat.le_trans HYS.out.2 (by omega)⟩ ⟨Nat.le_trans HNS.out.1 (by omega),Nat.le_trans HNS.out.2 (by omega)⟩
     clear hb2;have HQR:Hid (∀ W,af w7 W->RatAt W (.agg #[.bool qn,.slice a3 ql1 c3,.slice a4 ql2 c4]) (ps.getD k default)):=ae fun W h=>HQV.out W (HKX.out.trans h)
     refine (HCH2.out _).mono ?_;rintro e w8 ⟨rfl,h8⟩;rw [h8];clear h8;go_wp2_with fail
     go_region_with (first
      | (go_at_call 96;(with_reducible refine (HOF.out _).mono ?_);rintro e w8 ⟨⟨v8,rfl,hv8⟩,hk8⟩;have hkd:=(af.refl w7).drew.trans hk8;have i0:=hkd.cell x0;have i1:=hkd.cell x1;have i2:=hkd.cell x2;have j0:=hkd.cell q0;have j1:=hkd.cell q1;have j2:=hkd.cell q2;have HX8:=ae (HXW.out.kept hkd);have HXA8:=ae (HXA.out.kept hkd);have HQ8:=ae (HQR.out _ hkd);have HK8:=ae (HKX.out.trans hkd);have HV8:=ae hv8;clear hk8 hkd hv8)
      | (go_at_call 70;(with_reducible refine (HSB.out _ _ _ HV8.out HQ8.out).mono ?_);rintro e w9 ⟨⟨v9,rfl,hv9⟩,hk9⟩;have l0:=hk9.cell i0;have l1:=hk9.cell i1;have l2:=hk9.cell i2;have HX9:=ae (HX8.out.kept hk9);have HXA9:=ae (HXA8.out.kept hk9);have HK9:=ae (HK8.out.trans hk9);have HV9:=ae hv9;clear hk9 hv9)
      | (go_at_call 97;(with_reducible refine (HM2.out _ _ _ HXA9.out HV9.out).mono ?_);rintro e w7 ⟨⟨v7,rfl,hv7⟩,hk7⟩;have HX7:=ae (HX9.out.kept hk7);have HK7:=ae (HK9.out.trans hk7);obtain ⟨u7,u8,rfl,k7,k8⟩:=hv7;obtain ⟨a7,c7,rfl⟩:=k7.shape;obtain ⟨a8,c8,rfl⟩:=k8.shape;have K7:=ae k7;have K8:=ae k8;obtain ⟨_,_,_,_,⟨t0,t1,t2⟩,⟨j0,j1,j2⟩,hgl6,_⟩:=HX7.out.at;clear k7 k8 hk7))
     all_goals
      have HS:=ae (HX7.out.store K7.out K8.out);generalize (aj (dD ps (y,n) (k+1))).num.length=n7 at *;generalize (aj (dD ps (y,n) (k+1))).den.length=n8 at *;go_wp2_with fail;go_roundg (m - (k+1))
      case measure=>omega
      case rel=>exact ⟨k+1,by omega,by go_num,Nat.le_refl _,HS,ae (((HK7.out.store (Nat.le_refl _) _ _).store (Nat.le_refl _) _ _).store (Nat.le_refl _) _ _)⟩
  ·have hke:k=m:=by omega
   have hkn:¬ (k:Int)<(m:Int):=by omega
   have HX2:Hid (RatCell wr w3.heap.size R):=ae (by rw [HRR.out,<-hke];exact HX.out);have hrr:=HR3.out.kept HKr.out;have HFF:=ae (HF3.out.kept HKr.out);obtain ⟨a5,c5,a6,c6,⟨x0,x1,x2⟩,_,hgl,u7,u8,e9,k7,k8⟩:=HX2.out.at;simp only [Value.agg.injEq] at e9;have e9':=congrArg Array.toList e9;simp at e9';obtain ⟨rfl,rfl⟩:=e9';obtain ⟨y0,y1,y2,hra⟩:=az hrr HFF.out k7 k8;have g0:=hrr.cell (i:=0) (by simp);have g1:=hrr.cell (i:=1) (by simp);have g2:=hrr.cell (i:=2) (by simp);have f0:=hrr.free 0;have f1:=hrr.free 1;have f2:=hrr.free 2;have hlt5:=hrr.lt;have HRA:=ae hra;have Y0:=ae y0;have Y1:=ae y1;have Y2:=ae y2;have HKw:=ae (HK3.out.trans HKr.out);clear hra y0 y1 y2 k7 k8 hrr e9 hke;generalize R.num.length=n7 at *;generalize R.den.length=n8 at *;go_wp2;refine bodyPost_ret (v:=.agg #[.bool R.neg,.slice a5 n7 c5,.slice a6 n8 c6]) ?_ rfl ⟨⟨_,rfl,HRA.out⟩,?_⟩
   ·simp [results,Tryz.results123,go_sem,Y0.out,Y1.out,Y2.out]
   ·exact ((HKw.out.store (by omega) _ _).store (by omega) _ _).store (by omega) _ _
theorem lj (cv v:Value) (L:List (Nat × Nat)) (ps:List Rw) (w:World) (hc:aY w cv (aP L)) (hb:∀ c∈L,c.1<16777216/\c.2<16777216) (hL:L.length<=1024) (hv:RatsAt w v ps) (hp3:∀ r∈ps,r.Short 3) (hp30:ps.length<=30) :
  Calls Tryz.prog 76 #[cv,v] w fun e w'=>(∃ v',e=.returned v'/\RatAt w' v' (aj (bd ps L L.length)))/\af w w':=by
 have HPR:Hid (∀ (y n:Nat) W,y<16777216->n<16777216->af w W->Calls Tryz.prog 123 #[.agg #[.int .i64 y,.int .i64 n],v] W fun e w'=>(∃ v',e=.returned v'/\RatAt w' v' (aj (dD ps (y,n) ps.length)))/\af W w'):=ae fun y n W h1 h2 hk=>pl y n v ps W h1 h2 (hv.kept hk) hp3 hp30
 have HSS:=ae (fun k hk=>kH (l:=L) hp3 hv.ok hp30 k hk);have HPS:=ae (fun c=>gH (c:=c) hp3 hv.ok ps.length (Nat.le_refl _));have HV:=ae hc;have HB:=ae hb;obtain ⟨ca,cc,rfl⟩:=hc.shape;obtain ⟨a,c,rfl⟩:=hv.shape;rw [aK] at HV⊢;obtain ⟨m,hm⟩:∃ m,m=L.length:=⟨_,rfl⟩;rw [<-hm] at HV hL HSS⊢;have HM:=ae hm;obtain ⟨pn,hpn⟩:∃ pn,pn=ps.length:=⟨_,rfl⟩;rw [<-hpn] at HPR HPS hp30⊢;have HPN:=ae hpn;obtain ⟨R,hR⟩:∃ R,R=aj (bd ps L m):=⟨_,rfl⟩;rw [<-hR];have HRR:=ae hR;obtain ⟨w1,hw1⟩:∃ w1,w1=w.alloc (.cells #[.bool false,.slice none 0 0,.slice none 0 0] 29):=⟨_,rfl⟩;have HR1:Hid (ai w1 w.heap.size 29 [.bool false,.slice none 0 0,.slice none 0 0]):=ae (by rw [hw1];exact ai.made w #[.bool false,.slice none 0 0,.slice none 0 0] 29);have HF1:Hid (a_ w1 w.heap.size [.bool false,.slice none 0 0,.slice none 0 0]):=ae (by rw [hw1];exact a_.made w #[.bool false,.slice none 0 0,.slice none 0 0] 29);have HK1:Hid (af w w1):=ae (by rw [hw1];exact (af.refl _).alloc _);have HS1:Hid (w1.heap.size=w.heap.size+1):=ae (by rw [hw1];simp);obtain ⟨w2,hw2⟩:∃ w2,w2=w1.alloc (.cells #[.bool false,.slice none 0 0,.slice none 0 0] 29):=⟨_,rfl⟩;have HC:Hid (RatCell w2 w1.heap.size (aj (bd ps L 0))):=ae (by rw [hw2];exact RatCell.made (r:=⟨false,[],[]⟩) (ah.nil w1) (ah.nil w1))
 have HK2:Hid (af w1 w2):=ae (by rw [hw2];exact (af.refl _).alloc _);have HW1:=ae hw1;have HW2:=ae hw2;clear hm hc hv hp3 hb hpn hR hw1 hw2;go_enter Tryz.func76,Tryz.ntmps76;go_wp2_with fail;rw [<-HW1.out,<-HS1.out,<-HW2.out];go_loopg [10] m (fun kx s10 wq=>∃ j:Nat,j<=m/\s10=.int .i64 j/\m - j<=kx/\Hid (RatCell wq w1.heap.size (aj (bd ps L j)))/\Hid (af w1 wq))
 case atStart=>exact ⟨0,Nat.zero_le _,rfl,by omega,HC,HK2⟩
 case round =>
  obtain ⟨j,hj,rfl,hjx,HX,HKq⟩:=hrel;have HKw2:=ae (HK1.out.trans HKq.out);by_cases hjm:j<m
  ·have hjl:j<L.length:=by have:=HM.out;omega
   obtain ⟨b,o,rfl,g1,g2⟩:=HV.out.get j (by rw [aK];exact hjl);have eC:(aP L).getD j default=oQ L[j]:=eP hjl;rw [eC] at g1 g2;obtain ⟨y,hy⟩:∃ y,y=L[j].1:=⟨_,rfl⟩;obtain ⟨n,hn⟩:∃ n,n=L[j].2:=⟨_,rfl⟩;have eL:L[j]=(y,n):=by rw [hy,hn]
   have hbd:=HB.out L[j] (List.getElem_mem hjl);rw [eL] at g1 g2 hbd;have x1:=HKw2.out.cell g1;have x2:=HKw2.out.cell g2;rw [<-Nat.add_assoc] at x2;simp only [oQ] at x1 x2;have HP:=ae (fun W (h:af w W)=>HPR.out y n W hbd.1 hbd.2 h);have HST:Hid (aj (bd ps L (j+1))=aj (al (aj (bd ps L j))+al (aj (dD ps (y,n) pn)))):=ae (by rw [iT hjl,aA,aA,HPN.out,eL]);have hsk:=HSS.out j (by omega);have hps:=HPS.out (y,n);have hji:(j:Int)<(m:Int):=by omega
   have HAD:Hid (∀ W u1 u2,RatAt W u1 (aj (bd ps L j))->RatAt W u2 (aj (dD ps (y,n) pn))->Calls Tryz.prog 117 #[u1,u2] W fun e w'=>(∃ v',e=.returned v'/\RatAt w' v' (aj (bd ps L (j+1))))/\af W w'):=ae fun W u1 u2 k1 k2=>by
    rw [HST.out];exact qg u1 u2 _ _ W k1 k2 ⟨Nat.le_trans hsk.1 (by omega),Nat.le_trans hsk.2 (by omega)⟩ ⟨Nat.le_trans hps.1 (by omega),Nat.le_trans hps.2 (by omega)⟩
   obtain ⟨wo,rfl⟩:∃ wo:World,wo=wr:=⟨_,rfl⟩;obtain ⟨w5,hw5⟩:∃ w5,w5=wo.alloc (.cells #[.int .i64 (y:Int),.int .i64 (n:Int)] 114):=⟨_,rfl⟩;have HK5:Hid (af wo w5):=ae (by rw [hw5];exact (af.refl _).alloc _);have hq5:=ai.made wo #[.int .i64 (y:Int),.int .i64 (n:Int)] 114;rw [<-hw5] at hq5;have q0:=hq5.cell (i:=0) (by simp);have q1:=hq5.cell (i:=1) (by simp);simp only [List.getElem_cons_succ,List.getElem_cons_zero] at q0 q1;have hql:=hq5.lt;have HX5:=ae (HX.out.kept HK5.out);have HKq5:=ae (HKq.out.trans HK5.out);have HKw5:=ae (HKw2.out.trans HK5.out);obtain ⟨a5,c5,a6,c6,⟨x0,x3,x4⟩,⟨f0,f1,f2⟩,hgl,hxa⟩:=HX5.out.at;have HXA:=ae hxa;have HW5:=ae hw5;generalize (aj (bd ps L j)).neg=z3 at *;generalize (aj (bd ps L j)).num.length=z4 at *;generalize (aj (bd ps L j)).den.length=z5 at *;clear g1 g2 eC hsk hps hxa hy hn hw5 hq5;go_wp2_with fail;rw [<-HW5.out]
   go_region_with (first
    | (go_at_call 123;(with_reducible refine (HP.out _ (HKw5.out.drew)).mono ?_);rintro e w6 ⟨⟨v6,rfl,hv6⟩,hk6⟩;have hkd:=(af.refl _).drew.trans hk6;have i0:=hkd.cell x0;have i1:=hkd.cell x3;have i2:=hkd.cell x4;have HX6:=ae (HX5.out.kept hkd);have HXA6:=ae (HXA.out.kept hkd);have HK6:=ae (HKq5.out.trans hkd);have HV6:=ae hv6;clear hk6 hkd hv6)
    | (go_at_call 117;(with_reducible refine (HAD.out _ _ _ HXA6.out HV6.out).mono ?_);rintro e w7 ⟨⟨v7,rfl,hv7⟩,hk7⟩;have HX7:=ae (HX6.out.kept hk7);have HK7:=ae (HK6.out.trans hk7);obtain ⟨u7,u8,rfl,k7,k8⟩:=hv7;obtain ⟨a7,c7,rfl⟩:=k7.shape;obtain ⟨a8,c8,rfl⟩:=k8.shape;have K7:=ae k7;have K8:=ae k8;obtain ⟨_,_,_,_,⟨t0,t1,t2⟩,⟨j0,j1,j2⟩,hgl6,_⟩:=HX7.out.at;clear k7 k8 hk7))
   all_goals
    have HS:=ae (HX7.out.store K7.out K8.out);generalize (aj (bd ps L (j+1))).num.length=n7 at *;generalize (aj (bd ps L (j+1))).den.length=n8 at *;go_wp2_with fail;go_roundg (m - (j+1))
    case measure=>omega
    case rel=>exact ⟨j+1,by omega,by go_num,Nat.le_refl _,HS,ae (((HK7.out.store (Nat.le_refl _) _ _).store (Nat.le_refl _) _ _).store (Nat.le_refl _) _ _)⟩
  ·have hje:j=m:=by omega
   have hji:¬ (j:Int)<(m:Int):=by omega
   have HX2:Hid (RatCell wr w1.heap.size R):=ae (by rw [HRR.out,<-hje];exact HX.out);have hrr:=HR1.out.kept HKq.out;have HFF:=ae (HF1.out.kept HKq.out);obtain ⟨a5,c5,a6,c6,⟨x0,x1,x2⟩,_,hgl,u7,u8,e9,k7,k8⟩:=HX2.out.at;simp only [Value.agg.injEq] at e9;have e9':=congrArg Array.toList e9;simp at e9';obtain ⟨rfl,rfl⟩:=e9';obtain ⟨y0,y1,y2,hra⟩:=az hrr HFF.out k7 k8;have g0:=hrr.cell (i:=0) (by simp);have g1:=hrr.cell (i:=1) (by simp);have g2:=hrr.cell (i:=2) (by simp);have f0:=hrr.free 0;have f1:=hrr.free 1;have f2:=hrr.free 2;have hlt5:=hrr.lt;have HRA:=ae hra;have Y:=ae (And.intro y0 (And.intro y1 y2));clear hra y0 y1 y2 k7 k8 hrr e9;clear hje;generalize R.num.length=n7 at *;generalize R.den.length=n8 at *;go_wp2;refine bodyPost_ret (v:=.agg #[.bool R.neg,.slice a5 n7 c5,.slice a6 n8 c6]) ?_ rfl ⟨⟨_,rfl,HRA.out⟩,?_⟩
   ·simp [results,Tryz.results76,go_sem,Y.out.1,Y.out.2.1,Y.out.2.2]
   ·exact ((HKw2.out.store (by omega) _ _).store (by omega) _ _).store (by omega) _ _
theorem qC (y n:Nat) (v:Value) (ps:List Rw) (w:World) (hy:y<16777216) (hn:n<16777216) (hv:RatsAt w v ps) (hp3:∀ r∈ps,r.Short 3) (hp30:ps.length<=30) :
  Calls Tryz.prog 146 #[.agg #[.int .i64 y,.int .i64 n],v] w fun e w'=>(∃ v',e=.returned v'/\RatAt w' v' (aj (dD ps (y,n) ps.length)))/\af w w':=by
 have HOF:Hid (∀ W,Calls Tryz.prog 102 #[.int .i64 1] W fun e w'=>(∃ v',e=.returned v'/\RatAt w' v' (aj ((1:Int):Rat)))/\af W w'):=ae fun W=>nr 1 W (by omega)
 have HHY:=ae (fun (i:Nat) W=>iL y i hy W);have HHN:=ae (fun (i:Nat) W=>iL n i hn W);have HSH:=ae (fun k hk=>gH (c:=(y,n)) hp3 hv.ok k hk);have HP3:=ae hp3;have HOK:=ae hv.ok;have HV:=ae hv;obtain ⟨a,c,rfl⟩:=hv.shape;obtain ⟨m,hm⟩:∃ m,m=ps.length:=⟨_,rfl⟩;rw [<-hm] at HV hp30⊢;have HN:=ae hm;obtain ⟨R,hR⟩:∃ R,R=aj (dD ps (y,n) m):=⟨_,rfl⟩;rw [<-hR];have HRR:=ae hR;obtain ⟨w2,hw2⟩:∃ w2,w2=(w.alloc (.cells #[.int .i64 y,.int .i64 n] 114)).alloc (.cells #[.bool false,.slice none 0 0,.slice none 0 0] 29):=⟨_,rfl⟩;have hbx:=(ai.made w #[.int .i64 (y:Int),.int .i64 (n:Int)] 114).kept ((af.refl _).alloc (.cells #[.bool false,.slice none 0 0,.slice none 0 0] 29));have HMD:=ae (jz w (.cells #[.int .i64 y,.int .i64 n] 114));rw [<-hw2] at hbx HMD;have HW2:=ae hw2;have b0:=hbx.cell (i:=0) (by simp);have b1:=hbx.cell (i:=1) (by simp);simp only [List.getElem_cons_succ,List.getElem_cons_zero] at b0 b1;have HBB:=ae (And.intro b0 b1);clear hm hv hp3 hy hn hw2 hbx hR b0 b1;go_enter Tryz.func146,Tryz.ntmps146;go_wp2_with fail;rw [<-HW2.out];refine (HOF.out _).mono ?_;rintro e w3 ⟨⟨v3,rfl,hv3⟩,hk3⟩;have HR3:=ae (HMD.out.1.kept hk3);have HF3:=ae (HMD.out.2.1.kept hk3);have HK3:=ae (HMD.out.2.2.trans hk3);have HC3:=ae (And.intro (hk3.cell HBB.out.1) (hk3.cell HBB.out.2))
 obtain ⟨u1,u2,rfl,h1,h2⟩:=hv3;obtain ⟨a1,c1,rfl⟩:=h1.shape;obtain ⟨a2,c2,rfl⟩:=h2.shape;have HC:Hid (RatCell (w3.alloc (.cells #[.bool (aj ((1:Int):Rat)).neg,.slice a1 (aj ((1:Int):Rat)).num.length c1,.slice a2 (aj ((1:Int):Rat)).den.length c2] 29)) w3.heap.size (aj (dD ps (y,n) 0))):=ae (RatCell.made h1 h2);obtain ⟨w4,hw4⟩:∃ w4,w4=w3.alloc (.cells #[.bool (aj ((1:Int):Rat)).neg,.slice a1 (aj ((1:Int):Rat)).num.length c1,.slice a2 (aj ((1:Int):Rat)).den.length c2] 29):=⟨_,rfl⟩;have HW4:=ae hw4;rw [<-hw4] at HC;have HK4:Hid (af w3 w4):=ae (by rw [hw4];exact (af.refl _).alloc _);generalize hg1:(aj ((1:Int):Rat)).neg=o1 at HW4⊢;generalize hg2:(aj ((1:Int):Rat)).num.length=o2 at HW4⊢;generalize hg3:(aj ((1:Int):Rat)).den.length=o3 at HW4⊢;clear h1 h2 hk3 hw4 hg1 hg2 hg3;go_wp2_with fail;rw [<-HW4.out];go_loopg [11] m (fun kx s11 wr=>∃ k:Nat,k<=m/\s11=.int .i64 k/\m - k<=kx/\Hid (RatCell wr w3.heap.size (aj (dD ps (y,n) k)))/\Hid (af w3 wr))
 case atStart=>exact ⟨0,Nat.zero_le _,rfl,by omega,HC,HK4⟩
 case round =>
  obtain ⟨k,hk,rfl,hkx,HX,HKr⟩:=hrel;by_cases hlt:k<m
  ·have hkn:(k:Int)<(m:Int):=by omega
   have hkl:k<ps.length:=by have:=HN.out;omega
   have HQS:=ae (jV HP3.out hkl);have HNS:=ae (nj HP3.out HOK.out hkl);have HXS:=ae (HSH.out k (by omega));obtain ⟨b,o,u1,u2,rfl,hrg,hw1,hw2⟩:=HV.out.get k hkl;obtain ⟨a3,c3,rfl⟩:=hw1.shape;obtain ⟨a4,c4,rfl⟩:=hw2.shape;have HKw:=ae (HK3.out.trans HKr.out);have hrg2:=dv hrg HKw.out;have y0:=hrg2 0 _ rfl;have y1:=hrg2 1 _ rfl;have y2:=hrg2 2 _ rfl;rw [Nat.add_zero] at y0;obtain ⟨qn,hqn⟩:∃ qn,qn=(ps.getD k default).neg:=⟨_,rfl⟩;obtain ⟨ql1,hql1⟩:∃ ql1,ql1=(ps.getD k default).num.length:=⟨_,rfl⟩;obtain ⟨ql2,hql2⟩:∃ ql2,ql2=(ps.getD k default).den.length:=⟨_,rfl⟩;have HQV:Hid (∀ W,af w3 W->RatAt W (.agg #[.bool qn,.slice a3 ql1 c3,.slice a4 ql2 c4]) (ps.getD k default)):=ae fun W h=>⟨_,_,by rw [hqn,hql1,hql2],hw1.kept (HK3.out.trans h),hw2.kept (HK3.out.trans h)⟩
   rw [<-hqn] at y0;rw [<-hql1] at y1;rw [<-hql2] at y2
   have HSB:Hid (∀ W u1 u2,RatAt W u1 (aj ((1:Int):Rat))->RatAt W u2 (ps.getD k default)->Calls Tryz.prog 101 #[u1,u2] W fun e w'=>(∃ v',e=.returned v'/\RatAt w' v' (aj (1 - dQ ps k)))/\af W w'):=ae fun W u1 u2 h1 h2=>by
    have h:=jw u1 u2 _ _ W h1 h2 ⟨Nat.le_trans de.1 (by omega),Nat.le_trans de.2 (by omega)⟩ ⟨Nat.le_trans HQS.out.1 (by omega),Nat.le_trans HQS.out.2 (by omega)⟩;rw [jZ] at h;exact h
   have k0:=HKr.out.cell HC3.out.1;obtain ⟨wo,rfl⟩:∃ wo:World,wo=wr:=⟨_,rfl⟩;obtain ⟨w5,hw5⟩:∃ w5,w5=wo.alloc (.cells #[.bool qn,.slice a3 ql1 c3,.slice a4 ql2 c4] 29):=⟨_,rfl⟩;have HK5:Hid (af wo w5):=ae (by rw [hw5];exact (af.refl _).alloc _);have HX5:=ae (HX.out.kept HK5.out);have HQ5:Hid (ai w5 wo.heap.size 29 [.bool qn,.slice a3 ql1 c3,.slice a4 ql2 c4]):=ae (by rw [hw5];exact ai.made wo #[.bool qn,.slice a3 ql1 c3,.slice a4 ql2 c4] 29);have HK35:=ae (HKr.out.trans HK5.out);have HNE:Hid (wo.heap.size≠w3.heap.size):=ae (by have:=HX.out;obtain ⟨_,_,_,_,h,_⟩:=this;have:=h.lt;omega);have k01:=HKr.out.cell HC3.out.2;have k05:=HK5.out.cell k0;have k15:=HK5.out.cell k01;have hc3:=World.block_lt_of_cell? _ _ HC3.out.1;have hcl5:=World.block_lt_of_cell? _ _ k05;have HW5:=ae hw5;clear hrg hrg2 hw1 hw2 hqn hql1 hql2 hw5;have hcl0:=World.block_lt_of_cell? _ _ k0;cases hb1:y.testBit k with
   | false =>
    have HCH1:Hid (∀ W,Calls Tryz.prog 211 #[.int .i64 y,.int .i64 k] W fun e w'=>e=.returned (.bool false)/\w'=W):=ae fun W=>by have h:=HHY.out k W;rw [hb1] at h;exact h
    obtain ⟨Yk,hYk⟩:∃ Yk,Yk=dD ps (y,n) k:=⟨_,rfl⟩
    have HS2:Hid (dD ps (y,n) (k+1)=Yk*if n.testBit k=true then 1 - dQ ps k else 1):=ae (by
     rw [hYk];show (wQ (dQ ps) (y,n) k*(if y.testBit k=true then dQ ps k else 1))*_=_;rw [if_neg (by rw [hb1];simp),Rat.mul_one];rfl)
    have HYS:Hid ((aj Yk).Short (12*k+7)):=ae (by rw [hYk];exact ⟨Nat.le_trans HXS.out.1 (by omega),Nat.le_trans HXS.out.2 (by omega)⟩);rw [<-hYk] at HX5;have HXW:=HX5;have HKX:=HK35;have HQW:=HQ5;clear hb1 hYk;go_wp2_with (go_at_call 211;(with_reducible refine (HCH1.out _).mono ?_);rintro e w6 ⟨rfl,h6⟩;rw [h6,<-HW5.out];clear h6);obtain ⟨a5,c5,a6,c6,⟨x0,x1,x2⟩,⟨f0,f1,f2⟩,hgl,hxa⟩:=HXW.out.at;have HXA:=ae hxa;have q0:=HQW.out.cell (i:=0) (by simp);have q1:=HQW.out.cell (i:=1) (by simp);have q2:=HQW.out.cell (i:=2) (by simp);simp only [List.getElem_cons_succ,List.getElem_cons_zero] at q0 q1 q2;have hql:=HQW.out.lt;have k1:=HKX.out.cell HC3.out.2;have hcl:=World.block_lt_of_cell? _ _ k1;generalize (aj Yk).neg=z3 at *;generalize (aj Yk).num.length=z4 at *;generalize (aj Yk).den.length=z5 at *;clear hxa;cases hb2:n.testBit k with
    | false =>
     have HCH2:Hid (∀ W,Calls Tryz.prog 211 #[.int .i64 n,.int .i64 k] W fun e w'=>e=.returned (.bool false)/\w'=W):=ae fun W=>by have h:=HHN.out k W;rw [hb2] at h;exact h
     have HE:Hid (aj (dD ps (y,n) (k+1))=aj Yk):=ae (by rw [HS2.out,if_neg (by rw [hb2];simp),Rat.mul_one]);clear hb2;refine (HCH2.out _).mono ?_;rintro e w8 ⟨rfl,h8⟩;rw [h8];clear h8;go_wp2_with fail;go_roundg (m - (k+1))
     case measure=>omega
     case rel=>exact ⟨k+1,by omega,by go_num,Nat.le_refl _,ae (by rw [HE.out];exact HXW.out),HKX⟩
    | true =>
     have HCH2:Hid (∀ W,Calls Tryz.prog 211 #[.int .i64 n,.int .i64 k] W fun e w'=>e=.returned (.bool true)/\w'=W):=ae fun W=>by have h:=HHN.out k W;rw [hb2] at h;exact h
     have HE:Hid (aj (dD ps (y,n) (k+1))=aj (al (aj Yk)*al (aj (1 - dQ ps k)))):=ae (by rw [HS2.out,if_pos hb2,aA,aA])
     have HM2:Hid (∀ W u1 u2,RatAt W u1 (aj Yk)->RatAt W u2 (aj (1 - dQ ps k))->Calls Tryz.prog 103 #[u1,u2] W fun e w'=>(∃ v',e=.returned v'/\RatAt w' v' (aj (dD ps (y,n) (k+1))))/\af W w'):=ae fun W u1 u2 h1 h2=>by
      rw [HE.out];exact f' u1 u2 _ _ W h1 h2 ⟨Nat.le_trans HYS.out.1 (by omega),Nat.le_trans HYS.out.2 (by omega)⟩ ⟨Nat.le_trans HNS.out.1 (by omega),Nat.le_trans HNS.out.2 (by omega)⟩
     clear hb2;have HQR:Hid (∀ W,af w5 W->RatAt W (.agg #[.bool qn,.slice a3 ql1 c3,.slice a4 ql2 c4]) (ps.getD k default)):=ae fun W h=>HQV.out W (HKX.out.trans h)
     refine (HCH2.out _).mono ?_;rintro e w8 ⟨rfl,h8⟩;rw [h8];clear h8;go_wp2_with fail
     go_region_with (first
      | (go_at_call 102;(with_reducible refine (HOF.out _).mono ?_);rintro e w8 ⟨⟨v8,rfl,hv8⟩,hk8⟩;have hkd:=(af.refl w5).drew.trans hk8;have i0:=hkd.cell x0;have i1:=hkd.cell x1;have i2:=hkd.cell x2;have j0:=hkd.cell q0;have j1:=hkd.cell q1;have j2:=hkd.cell q2;have HX8:=ae (HXW.out.kept hkd);have HXA8:=ae (HXA.out.kept hkd);have HQ8:=ae (HQR.out _ hkd);have HK8:=ae (HKX.out.trans hkd);have HV8:=ae hv8;clear hk8 hkd hv8)
      | (go_at_call 101;(with_reducible refine (HSB.out _ _ _ HV8.out HQ8.out).mono ?_);rintro e w9 ⟨⟨v9,rfl,hv9⟩,hk9⟩;have l0:=hk9.cell i0;have l1:=hk9.cell i1;have l2:=hk9.cell i2;have HX9:=ae (HX8.out.kept hk9);have HXA9:=ae (HXA8.out.kept hk9);have HK9:=ae (HK8.out.trans hk9);have HV9:=ae hv9;clear hk9 hv9)
      | (go_at_call 103;(with_reducible refine (HM2.out _ _ _ HXA9.out HV9.out).mono ?_);rintro e w7 ⟨⟨v7,rfl,hv7⟩,hk7⟩;have HX7:=ae (HX9.out.kept hk7);have HK7:=ae (HK9.out.trans hk7);obtain ⟨u7,u8,rfl,k7,k8⟩:=hv7;obtain ⟨a7,c7,rfl⟩:=k7.shape;obtain ⟨a8,c8,rfl⟩:=k8.shape;have K7:=ae k7;have K8:=ae k8;obtain ⟨_,_,_,_,⟨t0,t1,t2⟩,⟨j0,j1,j2⟩,hgl6,_⟩:=HX7.out.at;clear k7 k8 hk7))
     all_goals
      have HS:=ae (HX7.out.store K7.out K8.out);generalize (aj (dD ps (y,n) (k+1))).num.length=n7 at *;generalize (aj (dD ps (y,n) (k+1))).den.length=n8 at *;go_wp2_with fail;go_roundg (m - (k+1))
      case measure=>omega
      case rel=>exact ⟨k+1,by omega,by go_num,Nat.le_refl _,HS,ae (((HK7.out.store (Nat.le_refl _) _ _).store (Nat.le_refl _) _ _).store (Nat.le_refl _) _ _)⟩
   | true =>
    have HCH1:Hid (∀ W,Calls Tryz.prog 211 #[.int .i64 y,.int .i64 k] W fun e w'=>e=.returned (.bool true)/\w'=W):=ae fun W=>by have h:=HHY.out k W;rw [hb1] at h;exact h
    obtain ⟨Yk,hYk⟩:∃ Yk,Yk=dD ps (y,n) k*dQ ps k:=⟨_,rfl⟩
    have HS2:Hid (dD ps (y,n) (k+1)=Yk*if n.testBit k=true then 1 - dQ ps k else 1):=ae (by
     rw [hYk];show (wQ (dQ ps) (y,n) k*(if y.testBit k=true then dQ ps k else 1))*_=_;rw [if_pos hb1];rfl)
    have HYS:Hid ((aj Yk).Short (12*k+7)):=ae (by
     have h:=gT (dc (dD ps (y,n) k)) (rW HOK.out hkl) HXS.out HQS.out (by omega) (by omega);rw [aA] at h;rw [hYk];exact ⟨Nat.le_trans h.1 (by omega),Nat.le_trans h.2 (by omega)⟩)
    have HM1:Hid (∀ W u1 u2,RatAt W u1 (aj (dD ps (y,n) k))->RatAt W u2 (ps.getD k default)->Calls Tryz.prog 103 #[u1,u2] W fun e w'=>(∃ v',e=.returned v'/\RatAt w' v' (aj Yk))/\af W w'):=ae fun W u1 u2 h1 h2=>by
     have h:=f' u1 u2 _ _ W h1 h2 ⟨Nat.le_trans HXS.out.1 (by omega),Nat.le_trans HXS.out.2 (by omega)⟩ ⟨Nat.le_trans HQS.out.1 (by omega),Nat.le_trans HQS.out.2 (by omega)⟩;rw [aA] at h;rw [hYk];exact h
    obtain ⟨a5,c5,a6,c6,⟨x0,x1,x2⟩,⟨f0,f1,f2⟩,hgl,hxa⟩:=HX5.out.at;have HXA:=ae hxa;have q0:=HQ5.out.cell (i:=0) (by simp);have q1:=HQ5.out.cell (i:=1) (by simp);have q2:=HQ5.out.cell (i:=2) (by simp);simp only [List.getElem_cons_succ,List.getElem_cons_zero] at q0 q1 q2;have HQR:=ae (HQV.out w5 HK35.out);generalize (aj (dD ps (y,n) k)).neg=z0 at *;generalize (aj (dD ps (y,n) k)).num.length=z1 at *;generalize (aj (dD ps (y,n) k)).den.length=z2 at *;clear hb1 hYk hxa;go_wp2_with (go_at_call 211;(with_reducible refine (HCH1.out _).mono ?_);rintro e w6 ⟨rfl,h6⟩;rw [h6,<-HW5.out];clear h6);refine (HM1.out _ _ _ HXA.out HQR.out).mono ?_;rintro e w6 ⟨⟨v6,rfl,hv6⟩,hk6⟩;have HX6:=ae (HX5.out.kept hk6);have HK6:=ae (HK35.out.trans hk6);have HQ6:=ae (HQ5.out.kept hk6);have k06:=hk6.cell k05;have k16:=hk6.cell k15;have hn3:¬ w.heap.size=w3.heap.size:=by omega
    obtain ⟨u7,u8,rfl,k7,k8⟩:=hv6;obtain ⟨a7,c7,rfl⟩:=k7.shape;obtain ⟨a8,c8,rfl⟩:=k8.shape;obtain ⟨_,_,_,_,⟨i0,i1,i2⟩,⟨j0,j1,j2⟩,hgl6,_⟩:=HX6.out.at;have HS:=ae (HX6.out.store k7 k8);have HKS:=ae (((HK6.out.store (Nat.le_refl _) 0 (.bool (aj Yk).neg)).store (Nat.le_refl _) 1 (.slice a7 (aj Yk).num.length c7)).store (Nat.le_refl _) 2 (.slice a8 (aj Yk).den.length c8));have HQS6:=ae ((aH.row ((((aH.refl w3.heap.size w6).store 0 (.bool (aj Yk).neg)).store 1 (.slice a7 (aj Yk).num.length c7)).store 2 (.slice a8 (aj Yk).den.length c8)) HQ6.out HNE.out));obtain ⟨w7,hw7⟩:∃ w7,w7=((w6.setCell ⟨w3.heap.size,0,none⟩ (.bool (aj Yk).neg)).setCell ⟨w3.heap.size,1,none⟩ (.slice a7 (aj Yk).num.length c7)).setCell ⟨w3.heap.size,2,none⟩ (.slice a8 (aj Yk).den.length c8):=⟨_,rfl⟩;rw [<-hw7] at HS HKS HQS6;have HW7:=ae hw7;have HXW:=HS;have HKX:=HKS;have HQW:=HQS6;generalize (aj Yk).neg=z6 at HW7⊢;generalize (aj Yk).num.length=z7 at HW7⊢;generalize (aj Yk).den.length=z8 at HW7⊢;clear k7 k8 hk6 hw7 x0 x1 x2 f0 f1 f2 hgl q0 q1 q2;go_wp2_with fail;rw [<-HW7.out];obtain ⟨a5,c5,a6,c6,⟨x0,x1,x2⟩,⟨f0,f1,f2⟩,hgl,hxa⟩:=HXW.out.at;have HXA:=ae hxa;have q0:=HQW.out.cell (i:=0) (by simp);have q1:=HQW.out.cell (i:=1) (by simp);have q2:=HQW.out.cell (i:=2) (by simp);simp only [List.getElem_cons_succ,List.getElem_cons_zero] at q0 q1 q2
    have hql:=HQW.out.lt;have k1:=HKX.out.cell HC3.out.2;have hcl:=World.block_lt_of_cell? _ _ k1;generalize (aj Yk).neg=z3 at *;generalize (aj Yk).num.length=z4 at *;generalize (aj Yk).den.length=z5 at *;clear hxa;cases hb2:n.testBit k with
    | false =>
     have HCH2:Hid (∀ W,Calls Tryz.prog 211 #[.int .i64 n,.int .i64 k] W fun e w'=>e=.returned (.bool false)/\w'=W):=ae fun W=>by have h:=HHN.out k W;rw [hb2] at h;exact h
     have HE:Hid (aj (dD ps (y,n) (k+1))=aj Yk):=ae (by rw [HS2.out,if_neg (by rw [hb2];simp),Rat.mul_one]);clear hb2;refine (HCH2.out _).mono ?_;rintro e w8 ⟨rfl,h8⟩;rw [h8];clear h8;go_wp2_with fail;go_roundg (m - (k+1))
     case measure=>omega
     case rel=>exact ⟨k+1,by omega,by go_num,Nat.le_refl _,ae (by rw [HE.out];exact HXW.out),HKX⟩
    | true =>
     have HCH2:Hid (∀ W,Calls Tryz.prog 211 #[.int .i64 n,.int .i64 k] W fun e w'=>e=.returned (.bool true)/\w'=W):=ae fun W=>by have h:=HHN.out k W;rw [hb2] at h;exact h
     have HE:Hid (aj (dD ps (y,n) (k+1))=aj (al (aj Yk)*al (aj (1 - dQ ps k)))):=ae (by rw [HS2.out,if_pos hb2,aA,aA])
     have HM2:Hid (∀ W u1 u2,RatAt W u1 (aj Yk)->RatAt W u2 (aj (1 - dQ ps k))->Calls Tryz.prog 103 #[u1,u2] W fun e w'=>(∃ v',e=.returned v'/\RatAt w' v' (aj (dD ps (y,n) (k+1))))/\af W w'):=ae fun W u1 u2 h1 h2=>by
      rw [HE.out];exact f' u1 u2 _ _ W h1 h2 ⟨Nat.le_trans HYS.out.1 (by omega),Nat.le_trans HYS.out.2 (by omega)⟩ ⟨Nat.le_trans HNS.out.1 (by omega),Nat.le_trans HNS.out.2 (by omega)⟩
     clear hb2;have HQR:Hid (∀ W,af w7 W->RatAt W (.agg #[.bool qn,.slice a3 ql1 c3,.slice a4 ql2 c4]) (ps.getD k default)):=ae fun W h=>HQV.out W (HKX.out.trans h)
     refine (HCH2.out _).mono ?_;rintro e w8 ⟨rfl,h8⟩;rw [h8];clear h8;go_wp2_with fail
     go_region_with (first
      | (go_at_call 102;(with_reducible refine (HOF.out _).mono ?_);rintro e w8 ⟨⟨v8,rfl,hv8⟩,hk8⟩;have hkd:=(af.refl w7).drew.trans hk8;have i0:=hkd.cell x0;have i1:=hkd.cell x1;have i2:=hkd.cell x2;have j0:=hkd.cell q0;have j1:=hkd.cell q1;have j2:=hkd.cell q2;have HX8:=ae (HXW.out.kept hkd);have HXA8:=ae (HXA.out.kept hkd);have HQ8:=ae (HQR.out _ hkd);have HK8:=ae (HKX.out.trans hkd);have HV8:=ae hv8;clear hk8 hkd hv8)
      | (go_at_call 101;(with_reducible refine (HSB.out _ _ _ HV8.out HQ8.out).mono ?_);rintro e w9 ⟨⟨v9,rfl,hv9⟩,hk9⟩;have l0:=hk9.cell i0;have l1:=hk9.cell i1;have l2:=hk9.cell i2;have HX9:=ae (HX8.out.kept hk9);have HXA9:=ae (HXA8.out.kept hk9);have HK9:=ae (HK8.out.trans hk9);have HV9:=ae hv9;clear hk9 hv9)
      | (go_at_call 103;(with_reducible refine (HM2.out _ _ _ HXA9.out HV9.out).mono ?_);rintro e w7 ⟨⟨v7,rfl,hv7⟩,hk7⟩;have HX7:=ae (HX9.out.kept hk7);have HK7:=ae (HK9.out.trans hk7);obtain ⟨u7,u8,rfl,k7,k8⟩:=hv7;obtain ⟨a7,c7,rfl⟩:=k7.shape;obtain ⟨a8,c8,rfl⟩:=k8.shape;have K7:=ae k7;have K8:=ae k8;obtain ⟨_,_,_,_,⟨t0,t1,t2⟩,⟨j0,j1,j2⟩,hgl6,_⟩:=HX7.out.at;clear k7 k8 hk7))
     all_goals
      have HS:=ae (HX7.out.store K7.out K8.out);generalize (aj (dD ps (y,n) (k+1))).num.length=n7 at *;generalize (aj (dD ps (y,n) (k+1))).den.length=n8 at *;go_wp2_with fail;go_roundg (m - (k+1))
      case measure=>omega
      case rel=>exact ⟨k+1,by omega,by go_num,Nat.le_refl _,HS,ae (((HK7.out.store (Nat.le_refl _) _ _).store (Nat.le_refl _) _ _).store (Nat.le_refl _) _ _)⟩
  ·have hke:k=m:=by omega
   have hkn:¬ (k:Int)<(m:Int):=by omega
   have HX2:Hid (RatCell wr w3.heap.size R):=ae (by rw [HRR.out,<-hke];exact HX.out);have hrr:=HR3.out.kept HKr.out;have HFF:=ae (HF3.out.kept HKr.out);obtain ⟨a5,c5,a6,c6,⟨x0,x1,x2⟩,_,hgl,u7,u8,e9,k7,k8⟩:=HX2.out.at;simp only [Value.agg.injEq] at e9;have e9':=congrArg Array.toList e9;simp at e9';obtain ⟨rfl,rfl⟩:=e9';obtain ⟨y0,y1,y2,hra⟩:=az hrr HFF.out k7 k8;have g0:=hrr.cell (i:=0) (by simp);have g1:=hrr.cell (i:=1) (by simp);have g2:=hrr.cell (i:=2) (by simp);have f0:=hrr.free 0;have f1:=hrr.free 1;have f2:=hrr.free 2;have hlt5:=hrr.lt;have HRA:=ae hra;have Y0:=ae y0;have Y1:=ae y1;have Y2:=ae y2;have HKw:=ae (HK3.out.trans HKr.out);clear hra y0 y1 y2 k7 k8 hrr e9 hke;generalize R.num.length=n7 at *;generalize R.den.length=n8 at *;go_wp2;refine bodyPost_ret (v:=.agg #[.bool R.neg,.slice a5 n7 c5,.slice a6 n8 c6]) ?_ rfl ⟨⟨_,rfl,HRA.out⟩,?_⟩
   ·simp [results,Tryz.results146,go_sem,Y0.out,Y1.out,Y2.out]
   ·exact ((HKw.out.store (by omega) _ _).store (by omega) _ _).store (by omega) _ _
theorem uq (y n y2 n2:Nat) (hy:y<16777216) (hn:n<16777216) (hy2:y2<16777216) (hn2:n2<16777216) (w:World):Calls Tryz.prog 210 #[.agg #[.int .i64 y,.int .i64 n],.agg #[.int .i64 y2,.int .i64 n2]] w fun e w'=>e=.returned (.bool (meetC (y,n) (y2,n2)))/\af w w':=by
 have p1:=cR y n2 (by omega) (by omega);have p2:=cR n y2 (by omega) (by omega);have hm:meetC (y,n) (y2,n2)=((y &&& n2 == 0)&&(n &&& y2 == 0)):=rfl;obtain ⟨t1,ht1⟩:∃ t1,t1=y &&& n2:=⟨_,rfl⟩;obtain ⟨t2,ht2⟩:∃ t2,t2=n &&& y2:=⟨_,rfl⟩;rw [<-ht1] at p1 hm;rw [<-ht2] at p2 hm;rw [hm];clear ht1 ht2 hm hy hn hy2 hn2;by_cases c1:t1=0
 ·subst c1;by_cases c2:t2=0
  ·subst c2;go_enter Tryz.func210,Tryz.ntmps210;go_wp2;go_ret;exact ⟨rfl,((af.refl _).alloc _).alloc _⟩
  ·have c2':¬ (t2:Int)=0:=by omega
   have c2'':((t2:Int) == 0)=false:=by simpa using c2'
   have c3:(t2 == 0)=false:=by simpa using c2
   rw [c3];go_enter Tryz.func210,Tryz.ntmps210;go_wp2;go_ret;exact ⟨rfl,((af.refl _).alloc _).alloc _⟩
 ·have c1':¬ (t1:Int)=0:=by omega
  have c1'':((t1:Int) == 0)=false:=by simpa using c1'
  have c3:(t1 == 0)=false:=by simpa using c1
  rw [c3];go_enter Tryz.func210,Tryz.ntmps210;go_wp2;go_ret;exact ⟨rfl,((af.refl _).alloc _).alloc _⟩
def rb (L:List (Int × Int)):Nat:=if 1024<L.length then 4 else cS L
theorem vK (v:Value) (L:List (Int × Int)) (w:World) (hv:aY w v L):Calls Tryz.prog 209 #[v] w fun e w'=>e=.returned (.int .i64 (rb L:Nat))/\af w w':=by
 have HV:=ae hv;obtain ⟨a,c,rfl⟩:=hv.shape;have hl:=hv.len;obtain ⟨n,hn⟩:∃ n,n=L.length:=⟨_,rfl⟩;rw [<-hn] at HV hl⊢;obtain ⟨q,hq⟩:∃ q,q=rb L:=⟨_,rfl⟩;rw [<-hq];have HQ:Hid (q=if 1024<n then 4 else cS L):=ae (by rw [hq,hn];rfl);have HN:=ae hn;have HCC:Hid (∀ c:Int × Int,∀ W,Calls Tryz.prog 252 #[.agg #[.int .i64 c.1,.int .i64 c.2]] W fun e w'=>e=.returned (.int .i64 (bC c:Nat))/\af W w'):=ae fun c W=>mA c.1 c.2 W
 clear hv hq hn;by_cases h9:1024<n
 ·have h9':(1024:Int)<(n:Int):=by omega
  have hq4:q=4:=by have h:=HQ.out;rw [if_pos h9] at h;exact h
  subst hq4;go_enter Tryz.func209,Tryz.ntmps209;go_wp2;go_ret;exact ⟨rfl,af.refl _⟩
 ·have h9':¬ (1024:Int)<(n:Int):=by omega
  have HQ2:Hid (q=cS L):=ae (by have h:=HQ.out;rw [if_neg h9] at h;exact h);go_enter Tryz.func209,Tryz.ntmps209;go_wp2_with fail;go_loopg [3] n (fun kx s3 wr=>∃ k:Nat,k<=n/\s3=.int .i64 k/\n - k<=kx/\Hid (∀ c∈L.take k,bC c=0)/\Hid (af w wr))
  case atStart=>exact ⟨0,Nat.zero_le _,rfl,by omega,ae (by simp),ae (af.refl _)⟩
  case round =>
   obtain ⟨k,hk,rfl,hkx,HF,HK⟩:=hrel;by_cases hlt:k<n
   ·have hkl:k<L.length:=by have:=HN.out;omega
    have hki:(k:Int)<(n:Int):=by omega
    obtain ⟨b,o,rfl,g1,g2⟩:=HV.out.get k hkl;have x1:=HK.out.cell g1;have x2:=HK.out.cell g2;rw [<-Nat.add_assoc] at x2;obtain ⟨d,hd⟩:∃ d,d=L.getD k default:=⟨_,rfl⟩;rw [<-hd] at x1 x2;have HD:=ae hd;have HCD:=ae (HCC.out d);obtain ⟨z,hz⟩:∃ z,z=bC d:=⟨_,rfl⟩;have HZ:=ae hz;rw [<-hz] at HCD;clear g1 g2 hd hz;by_cases hz0:z=0
    ·subst hz0;obtain ⟨W1,rfl⟩:∃ W1:World,W1=wr:=⟨_,rfl⟩;go_wp2_with (go_at_call 252;refine (HCD.out _).mono ?_;rintro e w2 ⟨rfl,hk2⟩;have HK2:=ae hk2;clear hk2);go_roundg (n - (k+1))
     case measure=>omega
     case rel =>
      refine ⟨k+1,by omega,by go_num,Nat.le_refl _,ae fun c hc=>?_,ae (HK.out.trans HK2.out)⟩;rw [List.take_succ_eq_append_getElem hkl] at hc;rcases List.mem_append.1 hc with hc | hc
      ·exact HF.out c hc
      ·rw [List.mem_singleton] at hc;have e:L.getD k default=L[k]:=by simp [List.getD_eq_getElem?_getD,hkl]
       rw [hc,<-e,<-HD.out,<-HZ.out]
    ·have hz1:((z:Int) != 0)=true:=by simp;omega
     have hz2:¬ (z:Int)=0:=by omega
     have HR:Hid (q=z):=ae (by
      have h:=HQ2.out;have e:=oZ hkl HF.out (by rw [<-HD.out,<-HZ.out];exact hz0);rw [<-HD.out,<-HZ.out] at e;rw [e] at h;exact h)
     obtain ⟨W1,rfl⟩:∃ W1:World,W1=wr:=⟨_,rfl⟩;go_wp2_with (go_at_call 252;refine (HCD.out _).mono ?_;rintro e w2 ⟨rfl,hk2⟩;have HK2:=ae hk2;clear hk2);go_ret;exact ⟨by rw [HR.out];rfl,HK.out.trans HK2.out⟩
   ·have hki:¬ (k:Int)<(n:Int):=by omega
    have HR:Hid (q=0):=ae (by
     have h:=HQ2.out;rw [gm (L:=L) (fun c hc=>HF.out c (by rw [List.take_of_length_le (by have:=HN.out;omega)];exact hc))] at h;exact h)
    go_wp2;go_ret;exact ⟨by rw [HR.out];rfl,HK.out⟩
theorem zM (L:List (Int × Int)):fq L=if rb L≠0 then rb L else if gz L L.length=true then 21 else 0:=by
 unfold fq rb;split
 ·rw [if_pos (by decide)]
 ·rfl
theorem ql (v:Value) (L:List (Int × Int)) (w:World) (hv:aY w v L):Calls Tryz.prog 145 #[v] w fun e w'=>e=.returned (.int .i64 (fq L:Nat))/\af w w':=by
 have HV:=ae hv;have HCL:=ae (vK v L w hv);obtain ⟨a,c,rfl⟩:=hv.shape;have hl:=hv.len;obtain ⟨n,hn⟩:∃ n,n=L.length:=⟨_,rfl⟩;rw [<-hn] at HV HCL hl⊢;obtain ⟨q,hq⟩:∃ q,q=fq L:=⟨_,rfl⟩;rw [<-hq];obtain ⟨q1,hq1⟩:∃ q1,q1=rb L:=⟨_,rfl⟩;have HQ:Hid (q=if q1≠0 then q1 else if gz L n=true then 21 else 0):=ae (by rw [hq,zM,hn,hq1]);rw [<-hq1] at HCL;have HQ1:=ae hq1;have HN:=ae hn
 have hcn:¬ (c:Int)<(n:Int):=by
  obtain ⟨_,_,he,⟨h2,_⟩,_⟩:=hv;injection he with _ h3 h4
  omega
 have HCN:Hid (n<=c):=ae (by omega);clear hv hq hn hq1 hcn;by_cases h9:q1=0
 ·subst h9
  have HF:Hid (∀ c∈L,bC c=0):=ae (by
   have h:=HQ1.out;unfold rb at h;split at h
   ·cases h
   ·exact dt h.symm)
  have HA:Hid (∀ i,i<n->∃ Y N:Nat,L.getD i default=((Y:Int),(N:Int))/\Y<16777216/\N<16777216):=ae fun i hi=>by
   have hil:i<L.length:=by have:=HN.out;omega
   have e:L.getD i default=L[i]:=by simp [List.getD_eq_getElem?_getD,hil]
   have h0:=HF.out L[i] (List.getElem_mem hil);obtain ⟨⟨h1,h2,_⟩,h4⟩:=dV h0;exact ⟨_,_,by rw [e];exact h4,h1,h2⟩
  have HQ3:Hid (q=if gz L n=true then 21 else 0):=ae (by have h:=HQ.out;rw [if_neg (by simp)] at h;exact h);have HME:=ae uq;go_enter Tryz.func145,Tryz.ntmps145;go_wp2_with fail;refine HCL.out.mono ?_;rintro e w1 ⟨rfl,hk1⟩;have HK1:=ae hk1;clear hk1;go_wp2_with fail;go_loopg [15] n (fun ix s15 wi=>∃ i:Nat,i<=n/\s15=.int .i64 i/\n - i<=ix/\Hid (gz L i=false)/\Hid (af w wi))
  case atStart=>exact ⟨0,Nat.zero_le _,rfl,by omega,ae rfl,HK1⟩
  case round =>
   obtain ⟨i,hi,rfl,hix,HM,HKI⟩:=hrel;by_cases hil:i<n
   ·have hii:(i:Int)<(n:Int):=by omega
    have hilen:i<L.length:=by have:=HN.out;omega
    obtain ⟨Y,N,e1,hY,hN⟩:=HA.out i hil;obtain ⟨b,o,rfl,g1,g2⟩:=HV.out.get i hilen;rw [e1] at g1 g2;have x1:=HKI.out.cell g1;have x2:=HKI.out.cell g2;rw [<-Nat.add_assoc] at x2;have HE:=ae e1;have hic:¬ (c:Int)<(i:Int):=by have:=HCN.out;omega
    have hic2:(i:Int)<=(c:Int):=by have:=HCN.out;omega
    have hi0:¬ (i:Int)<0:=by omega
    have HYN:=ae (And.intro hY hN);clear g1 g2 e1 hY hN;go_wp2_with fail;obtain ⟨wo,rfl⟩:∃ wo:World,wo=wr:=⟨_,rfl⟩;obtain ⟨w5,hw5⟩:∃ w5,w5=wo.alloc (.cells #[.int .i64 Y,.int .i64 N] 114):=⟨_,rfl⟩;have hr5:=ai.made wo #[.int .i64 (Y:Int),.int .i64 (N:Int)] 114;have HK5:Hid (af wo w5):=ae (by rw [hw5];exact (af.refl wo).alloc _);rw [<-hw5] at hr5⊢;have HR5:=ae hr5;clear hw5 hr5;go_loopg [24] i (fun jx s24 W=>∃ j:Nat,j<=i/\s24=.int .i64 j/\i - j<=jx/\Hid (metC L i j=false)/\Hid (af w5 W))
    case atStart=>exact ⟨0,Nat.zero_le _,rfl,by omega,ae rfl,ae (af.refl _)⟩
    case round =>
     obtain ⟨j,hj,rfl,hjx,HMJ,HKJ⟩:=hrel;by_cases hjl:j<i
     ·have hji:(j:Int)<(i:Int):=by omega
      have hjlen:j<L.length:=by omega
      obtain ⟨Y2,N2,f1,hY2,hN2⟩:=HA.out j (by omega);obtain ⟨b',o',he',k1,k2⟩:=HV.out.get j hjlen;cases he';rw [f1] at k1 k2;have HKK:=ae (HKI.out.trans (HK5.out.trans HKJ.out));have z1:=HKK.out.cell k1;have z2:=HKK.out.cell k2;rw [<-Nat.add_assoc] at z2;have y1:=(HR5.out.kept HKJ.out).cell (i:=0) (by simp);have y2:=(HR5.out.kept HKJ.out).cell (i:=1) (by simp);simp only [List.getElem_cons_succ,List.getElem_cons_zero] at y1 y2;have hlt5:=(HR5.out.kept HKJ.out).lt;have HMC:=ae (fun W=>HME.out Y N Y2 N2 HYN.out.1 HYN.out.2 hY2 hN2 W)
      have HST:Hid (metC L i (j+1)=meetC (Y,N) (Y2,N2)):=ae (by
       rw [nd,HMJ.out,HE.out,f1];rfl)
      clear k1 k2 f1 hY2 hN2;obtain ⟨W1,rfl⟩:∃ W1:World,W1=wr:=⟨_,rfl⟩;cases hb:meetC (Y,N) (Y2,N2) with
      | true =>
       rw [hb] at HMC HST
       have HR:Hid (q=21):=ae (by
        have h:=HQ3.out;rw [if_pos] at h
        ·exact h
        ·unfold gz;rw [List.any_eq_true];refine ⟨i,by simpa using hil,?_⟩;have h2:=HST.out;unfold metC at h2⊢;obtain ⟨m,hm,h3⟩:=List.any_eq_true.1 h2;exact List.any_eq_true.2 ⟨m,by simp at hm⊢;omega,h3⟩)
       clear hb;go_wp2_with (go_at_call 210;refine (HMC.out _).mono ?_;rintro e w6 ⟨rfl,hk6⟩;have HK6:=ae (((af.refl W1).alloc _).trans hk6);clear hk6);go_ret;exact ⟨by rw [HR.out];rfl,HKK.out.trans HK6.out⟩
      | false =>
       rw [hb] at HMC HST;clear hb;go_wp2_with (go_at_call 210;refine (HMC.out _).mono ?_;rintro e w6 ⟨rfl,hk6⟩;have HK6:=ae (((af.refl W1).alloc _).trans hk6);clear hk6);go_roundg (i - (j+1))
       case measure=>omega
       case rel=>exact ⟨j+1,by omega,by go_num,Nat.le_refl _,HST,ae (HKJ.out.trans HK6.out)⟩
     ·have hji:¬ (j:Int)<(i:Int):=by omega
      have HMI:Hid (gz L (i+1)=false):=ae (by
       have hje:j=i:=by omega
       rw [hje] at HMJ;rw [ne,HM.out,HMJ.out];rfl)
      go_wp2;go_roundg (n - (i+1))
      case measure=>omega
      case rel=>exact ⟨i+1,by omega,by go_num,Nat.le_refl _,HMI,ae (HKI.out.trans (HK5.out.trans HKJ.out))⟩
   ·have hii:¬ (i:Int)<(n:Int):=by omega
    have HR:Hid (q=0):=ae (by
     have hie:i=n:=by omega
     have h:=HQ3.out;rw [<-hie,HM.out,if_neg (by simp)] at h;exact h)
    go_wp2;go_ret;exact ⟨by rw [HR.out];rfl,HKI.out⟩
 ·have h9':((q1:Int) != 0)=true:=by simp;omega
  have h9'':¬ (q1:Int)=0:=by omega
  have HR:Hid (q=q1):=ae (by have h:=HQ.out;rw [if_pos h9] at h;exact h);go_enter Tryz.func145,Tryz.ntmps145;go_wp2_with fail;refine HCL.out.mono ?_;rintro e w1 ⟨rfl,hk1⟩;go_wp2;go_ret;exact ⟨by rw [HR.out];rfl,hk1⟩
def eA (y:Nat) (is:List Nat):Nat:=is.foldl (fun y i=>y ||| 2^i) y
theorem mY (j:Nat):∀ (is:List Nat) (y:Nat),(eA y is).testBit j=(y.testBit j||decide (j∈is)):=by
 intro is;induction is with
 | nil=>intro y;simp [eA]
 | cons i is ih =>
  intro y;show (eA (y ||| 2^i) is).testBit j=_;rw [ih,Nat.testBit_or,Nat.testBit_two_pow];by_cases h:i=j
  ·subst h;simp
  ·have:(j=i)=False:=by simp;omega
   simp [h,this]
theorem lF (y i:Nat) (is:List Nat):eA y (is++[i])=eA y is ||| 2^i:=by unfold eA;rw [List.foldl_append];rfl
theorem lE (n i:Nat):∀ (is:List Nat) (y:Nat),dg y n (is++[i])=dg y n is++[(eA y is,n ||| 2^i)]:=by
 intro is;induction is with
 | nil=>intro y;rfl
 | cons j is ih =>
  intro y;rw [List.cons_append,dg,ih,dg];rfl
theorem pH {y:Nat} {is:List Nat} (hy:y<16777216) (hi:∀ i∈is,i<24):eA y is<16777216:=by
 refine nc fun j hj=>?_
 rw [mY,Bool.or_eq_true,decide_eq_true_eq] at hj;rcases hj with h | h
 ·exact jG hy h
 ·exact hi j h
theorem fF (n:Nat):∀ (is:List Nat) (y:Nat),(dg y n is).length=is.length:=by
 intro is;induction is with
 | nil=>intro y;rfl
 | cons j is ih=>intro y;rw [dg,List.length_cons,List.length_cons,ih]
theorem tk {a b:Nat} (ha:a<16777216) (hb:b<16777216):a ||| b<16777216:=by
 have:=Nat.or_lt_two_pow (n:=24) (x:=a) (y:=b) ha hb;exact this
theorem ul {y n s k:Nat} (hy:y<16777216) (hk:k<24) :
  let is:=(List.range k).filter fun i=>(aD s y).testBit i
  let is':=(List.range (k+1)).filter fun i=>(aD s y).testBit i
  (aD s (eA y is)).testBit k=(aD s y).testBit k/\eA y is<16777216/\is.length<=k /\
   ((aD s y).testBit k=false->is'=is)/\((aD s y).testBit k=true->dg y n is'=dg y n is++[(eA y is,n ||| 2^k)]/\eA y is'=eA y is ||| 2^k):=by
 intro is is';have hst:is'=is++(if (aD s y).testBit k then [k] else []):=lk (aD s y) k;refine ⟨?_,pH hy fun i hi=>?_,gL _ _,fun h=>?_,fun h=>?_⟩
 ·have hnk:¬ k∈is:=fun h=>by
   have:=(List.mem_filter.1 h).1;simp at this
  rw [bA,bA,mY];simp [hnk]
 ·have:=(List.mem_filter.1 hi).1
  have:i<k:=by simpa using this
  omega
 ·rw [hst,h];simp
 ·rw [hst,h];exact ⟨lE n k is y,lF y k is⟩
theorem pW (l:List (Nat × Nat)) (y n:Nat):aP (l++[(y,n)])=aP l++[((y:Int),(n:Int))]:=by rw [gB];rfl
theorem pG {y n s:Nat} (h:s &&& n≠0):cj (y,n) s=[(y,n)]:=by unfold cj;rw [if_pos h]
theorem mX {y n s:Nat} (h:s &&& n=0):cj (y,n) s=dg y n ((List.range 24).filter fun i=>(aD s y).testBit i):=by unfold cj;rw [if_neg (by simpa using h)];rfl
theorem tq {s y:Nat} (hs:s<16777216):aD s y<16777216:=nc fun j hj=>by
 rw [bA,Bool.and_eq_true] at hj;exact jG hs hj.1
theorem zU (s y k:Nat) (hs:s<16777216) (W:World) (b:Bool) (hb:(aD s y).testBit k=b):Calls Tryz.prog 98 #[.int .i64 (aD s y:Nat),.int .i64 k] W fun e w'=>e=.returned (.bool b)/\w'=W:=by
 have h:=lw (aD s y) k (tq hs) W;rw [hb] at h;exact h
theorem wI (y n s:Nat) (hy:y<16777216) (hn:n<16777216) (hs:s<16777216) (w:World) :
  Calls Tryz.prog 182 #[.agg #[.int .i64 y,.int .i64 n],.int .i64 s] w fun e w'=>(∃ v,e=.returned v/\aY w' v (aP (cj (y,n) s)))/\af w w':=by
 have hn63:n<9223372036854775808:=Nat.lt_trans hn (by decide);obtain ⟨z,hz⟩:∃ z,z=s &&& n:=⟨_,rfl⟩;have pz:=cR s n (by omega) (by omega);rw [<-hz] at pz;by_cases h0:z=0
 ·subst h0;rw [mX hz.symm];have HST:=ae fun k (hk:k<24)=>ul (n:=n) (s:=s) hy hk
  have HSD:=ae fun (x:Nat) (h:x<16777216)=>fN s x (by omega) (by omega)
  have HHA:=ae fun (x k:Nat) W b hb=>zU s x k hs W b hb
  obtain ⟨w1,hw1⟩:∃ w1,w1=w.alloc (.cells #[.int .i64 y,.int .i64 n] 114):=⟨_,rfl⟩;have HR1:Hid (ai w1 w.heap.size 114 [.int .i64 y,.int .i64 n]):=ae (by rw [hw1];exact ai.made w #[.int .i64 y,.int .i64 n] 114);have HK1:Hid (af w w1):=ae (by rw [hw1];exact (af.refl w).alloc _);have HS1:Hid (w1.heap.size=w.heap.size+1):=ae (by rw [hw1];simp);have HW1:=ae hw1;have b1:=HR1.out.cell (i:=1) (by simp);simp only [List.getElem_cons_succ,List.getElem_cons_zero] at b1;clear hz hw1 hs;go_enter Tryz.func182,Tryz.ntmps182;go_wp2_with fail;rw [<-HW1.out];go_loopg [5,15] 24 (fun kx s5 s15 wr=>∃ k:Nat,k<=24/\s15=.int .i64 k/\24 - k<=kx/\Hid (bv wr w1.heap.size s5 (aP (dg y n ((List.range k).filter fun i=>(aD s y).testBit i))))/\Hid (ai wr w.heap.size 114 [.int .i64 (eA y ((List.range k).filter fun i=>(aD s y).testBit i):Nat),.int .i64 n])/\Hid (af w wr)/\Hid (w1.heap.size<=wr.heap.size))
  case atStart=>exact ⟨0,Nat.zero_le _,rfl,by omega,ae (bv.nil _ _),HR1,HK1,ae (Nat.le_refl _)⟩
  case round =>
   obtain ⟨k,hk,rfl,hkx,HO,HR,HK,HSZ⟩:=hrel;obtain ⟨a5,c5,e5⟩:=HO.out.at.shape;by_cases hlt:k<24
   ·have hkn:(k:Int)<24:=by omega
    obtain ⟨f1,f2,f3,f4,f5⟩:=HST.out k hlt;obtain ⟨is,his⟩:∃ is,is=(List.range k).filter fun i=>(aD s y).testBit i:=⟨_,rfl⟩
    obtain ⟨is',his'⟩:∃ is',is'=(List.range (k+1)).filter fun i=>(aD s y).testBit i:=⟨_,rfl⟩
    rw [<-his] at HO HR f1 f2 f3 f4 f5 e5;rw [<-his'] at f4 f5;rw [aK,fF] at e5;have HIS':=ae his';obtain ⟨yk,hyk⟩:∃ yk,yk=eA y is:=⟨_,rfl⟩;rw [<-hyk] at HR f1 f2 f5;have HYK:=ae hyk;have hy63:yk<9223372036854775808:=Nat.lt_trans f2 (by decide);have p1:=HSD.out yk f2;obtain ⟨z,hz⟩:∃ z,z=aD s yk:=⟨_,rfl⟩;have HHZ:=ae fun W b hb=>HHA.out yk k W b hb
    rw [<-hz] at p1 f1 HHZ;have y0:=HR.out.cell (i:=0) (by simp);have y1:=HR.out.cell (i:=1) (by simp);simp only [List.getElem_cons_succ,List.getElem_cons_zero] at y0 y1;have g0:=HR.out.free 0;clear hz his his' hyk;cases hb:(aD s y).testBit k with
    | false =>
     have HC:=ae fun W=>HHZ.out W false (by rw [f1,hb])
     have HIE:=ae (f4 hb);clear hb f1 f2 f3 f4 f5;subst e5;go_wp2_with (go_at_call 98;refine (HC.out _).mono ?_;rintro e w2 ⟨rfl,rfl⟩);go_roundg (24 - (k+1))
     case measure=>omega
     case rel=>exact ⟨k+1,by omega,by go_num,Nat.le_refl _,ae (by rw [<-HIS'.out,HIE.out];exact HO.out),ae (by rw [<-HIS'.out,HIE.out,<-HYK.out];exact HR.out),HK,HSZ⟩
    | true =>
     have HC:=ae fun W=>HHZ.out W true (by rw [f1,hb])
     have HIE:=ae (f5 hb);have p2:=kS k (by omega);have hp:=gD (show k<24 by omega);obtain ⟨pk,hpk⟩:∃ pk,pk=2^k:=⟨_,rfl⟩;rw [<-hpk] at p2 hp HIE;clear hb f1 f2 f4 f5;have hp63:pk<9223372036854775808:=Nat.lt_trans hp (by decide);have p3:=gC n pk hn63 hp63;have p4:=gC yk pk hy63 hp63;obtain ⟨nk,hnk⟩:∃ nk,nk=n ||| pk:=⟨_,rfl⟩
     obtain ⟨yk',hyk'⟩:∃ yk',yk'=yk ||| pk:=⟨_,rfl⟩
     rw [<-hnk] at p3 HIE;rw [<-hyk'] at p4 HIE;have HLN:=ae f3;clear f3 hpk hnk hyk' hp hp63 hy63;subst e5;go_wp2_with (go_at_call 98;refine (HC.out _).mono ?_;rintro e w2 ⟨rfl,rfl⟩);go_region
     all_goals
      go_wp2_with (at_builtin;refine zD rfl _ _ rfl w1.heap.size _ (aP (dg y n is)) rfl (HO.out.kept ?k1) _ ((yk:Int),(nk:Int)) rfl ?k2 ?k3 ?k4 ?_)
      case k1=>exact (((af.refl _).alloc _).alloc _).drew
      case k2 =>
       have h:=eD (gQ (w2.alloc (.cells #[.int .i64 yk,.int .i64 nk] 114)) (.int .i64 yk) (.int .i64 nk) 114) ((af.refl _).drew);simpa [bG] using h
      case k3=>rw [aK,fF];have:=HLN.out;omega
      case k4=>have:=HSZ.out;simp;omega
      intro v' w' h5 _ h6;have H5:=ae h5;have H6:=ae h6;have hr6:=(HR.out.kept ((((af.refl w2).alloc (.cells #[.int .i64 yk,.int .i64 nk] 114)).alloc (.cells #[.int .i64 yk,.int .i64 nk] 114)).drew)).same (h6.block w.heap.size (by rw [HS1.out];omega));have HR6:=ae hr6;have z0:=hr6.cell (i:=0) (by simp);have z1:=hr6.cell (i:=1) (by simp);simp only [List.getElem_cons_succ,List.getElem_cons_zero] at z0 z1;have t0:=hr6.free 0;obtain ⟨a6,c6,rfl⟩:=h5.at.shape;clear h5 h6 hr6;go_wp2;go_region
      all_goals
       go_wp2_with fail;go_roundg (24 - (k+1))
       case measure=>omega
       case rel =>
        refine ⟨k+1,by omega,by go_num,Nat.le_refl _,ae ?_,ae ?_,ae ?_,ae ?_⟩
        ·rw [<-HIS'.out,HIE.out.1,pW];exact H5.out.older (g:=w.heap.size) (by rw [HS1.out];omega) (by first | exact (aH.refl _ _).store _ _ | exact ((aH.refl _ _).store _ _).trans (aH.kept (af.refl _).drew))
        ·rw [<-HIS'.out,HIE.out.2]
         first
          | exact HR6.out.store 0 _
          | exact (HR6.out.kept ((af.refl _).drew)).store 0 _
          | exact (HR6.out.store 0 _).kept ((af.refl _).drew)
        ·have hk:=((HK.out.alloc (.cells #[.int .i64 yk,.int .i64 nk] 114)).alloc (.cells #[.int .i64 yk,.int .i64 nk] 114)).drew;have hk6:af w w':=Below.trans hk (H6.out.mono (by rw [HS1.out];omega))
         first
          | exact hk6.store (Nat.le_refl _) _ _
          | exact hk6.drew.store (Nat.le_refl _) _ _
          | exact (hk6.store (Nat.le_refl _) _ _).drew
        ·have hz:=H6.out.size;have:=HSZ.out;simp at hz⊢;omega
   ·have hke:k=24:=by omega
    have hkn:¬ (k:Int)<24:=by omega
    have HE:=HO.out.at;rw [hke] at HE;have HE:=ae HE;subst e5;clear hke;go_wp2;go_ret;exact ⟨⟨_,rfl,HE.out⟩,HK.out⟩
 ·have hn0:¬ (z:Int)=0:=by omega
  rw [pG (by rw [<-hz];exact h0)];clear hz h0;go_enter Tryz.func182,Tryz.ntmps182;go_wp2;go_ret;refine ⟨⟨_,rfl,?_⟩,((af.refl _).alloc _).alloc _⟩;have h:=(jq (w.alloc (.cells #[.int .i64 y,.int .i64 n] 114)) 0 ((y:Int),(n:Int)) (Nat.zero_le _)).at;simpa [aP,oQ] using h
theorem jM (c:Nat × Nat) (s:Nat):(cj c s).length<=24:=by
 unfold cj;split
 ·simp
 ·rw [fF];exact gL _ 24
theorem mj (l:List (Nat × Nat)) (c:Nat × Nat) (s:Nat):bn (l++[c]) s=bn l s++cj c s:=by unfold bn;rw [List.flatMap_append];simp
theorem kp (s:Nat):∀ l:List (Nat × Nat),(bn l s).length<=24*l.length:=by
 intro l;induction l with
 | nil=>simp [bn]
 | cons c l ih =>
  have e:bn (c :: l) s=cj c s++bn l s:=by simp [bn]
  rw [e,List.length_append,List.length_cons];have:=jM c s;omega
theorem wZ {l:List (Nat × Nat)} {i:Nat} (h:i<(aP l).length):(aP l)[i]=oQ (l[i]'(by rw [aK] at h;exact h)):=by simp [aP]
theorem aY.cells {w:World} {a:Option Addr} {n c:Nat} {l:List (Nat × Nat)} (h:aY w (.slice a n c) (aP l)) (i:Nat) (hi:i<l.length) :
  ∃ b o,a=some ⟨b,o,none⟩/\w.rangeAt b (o+i*2) [.int .i64 (l[i].1:Nat),.int .i64 (l[i].2:Nat)]:=by
 obtain ⟨a',c',h1,_,_,h5⟩:=h;injection h1 with h1
 subst h1;obtain ⟨b,o,h6,h7⟩:=h5 i (by rw [aK];exact hi);refine ⟨b,o,h6,?_⟩;rw [wZ] at h7;exact h7
theorem qP (va:Value) (l:List (Nat × Nat)) (s most:Nat) (w:World) (hv:aY w va (aP l)) (hl:l.length<=1024) (hb:∀ c∈l,c.1<16777216/\c.2<16777216) (hs:s<16777216) (_hm:most<=1024) :
  Calls Tryz.prog 122 #[va,.int .i64 s,.int .i64 most] w fun e w'=>((most<(bn l s).length/\e=.returned (.tuple #[.slice none 0 0,bI 4]))\/(¬ most<(bn l s).length/\∃ v,e=.returned (.tuple #[v,.nilIface])/\aY w' v (aP (bn l s))))/\af w w':=by
 have HLE:=ae fun (c:Nat × Nat) W (h:c.1<16777216/\c.2<16777216)=>wI c.1 c.2 s h.1 h.2 hs W
 have HV:=ae hv;have HB:=ae hb;obtain ⟨a,c,rfl⟩:=hv.shape;rw [aK] at HV⊢;obtain ⟨n,hn⟩:∃ n,n=l.length:=⟨_,rfl⟩;rw [<-hn] at HV hl⊢;have HN:=ae hn;have HWL:=ae fun k=>kp s (l.take k)
 obtain ⟨z,hz⟩:∃ z,z=(bn l s).length:=⟨_,rfl⟩;rw [<-hz];have HZ:=ae hz;clear hv hb hn hs hz;go_enter Tryz.func122,Tryz.ntmps122;go_wp2_with fail;go_loopg [8,13] n (fun kx s8 s13 wr=>∃ k:Nat,k<=n/\s13=.int .i64 k/\n - k<=kx/\Hid (bv wr w.heap.size s8 (aP (bn (l.take k) s)))/\Hid (af w wr))
 case atStart=>exact ⟨0,Nat.zero_le _,rfl,by omega,ae (bv.nil _ _),ae (af.refl _)⟩
 case round =>
  obtain ⟨k,hk,rfl,hkx,HO,HK⟩:=hrel;obtain ⟨a8,c8,e8⟩:=HO.out.at.shape;rw [aK] at e8;by_cases hlt:k<n
  ·have hkn:(k:Int)<(n:Int):=by omega
   have hkl:k<l.length:=by have:=HN.out;omega
   obtain ⟨b,o,rfl,hrg⟩:=HV.out.cells k hkl;have hrg2:=eD hrg HK.out;have y0:=hrg2 0 _ rfl;have y1:=hrg2 1 _ rfl;rw [Nat.add_zero] at y0;have HLC:=ae fun W=>HLE.out l[k] W (HB.out _ (List.getElem_mem hkl))
   have HST:Hid (bn (l.take (k+1)) s=bn (l.take k) s++cj l[k] s):=ae (by rw [List.take_succ_eq_append_getElem hkl,mj])
   have HLL:Hid ((bn (l.take k) s).length+(cj l[k] s).length<=1099511627776):=ae (by
    have h1:=HWL.out k;have h2:=jM l[k] s;have h3:(l.take k).length<=k:=by rw [List.length_take];omega
    omega)
   obtain ⟨z0,hz0⟩:∃ z0,z0=l[k].1:=⟨_,rfl⟩;obtain ⟨z1,hz1⟩:∃ z1,z1=l[k].2:=⟨_,rfl⟩;obtain ⟨M,hM⟩:∃ M,M=cj l[k] s:=⟨_,rfl⟩;have e:(l[k].1,l[k].2)=l[k]:=rfl;rw [e,<-hM] at HLC;rw [<-hz0,<-hz1] at HLC;rw [<-hM] at HST HLL;rw [<-hz0] at y0;rw [<-hz1] at y1;subst e8;clear hrg hrg2 hz0 hz1 hM e hkl
   go_wp2_with (first
    | (go_at_call 182;refine (HLC.out _).mono ?_;rintro e w2 ⟨⟨v2,rfl,hv2⟩,hk2⟩;have HV2:=ae hv2;have HK2:=ae (((af.refl wr).alloc _).trans hk2);clear hv2 hk2)
    | (at_builtin;refine iX rfl _ _ rfl w.heap.size _ (aP (bn (l.take k) s)) rfl (HO.out.kept HK2.out) _ (aP M) rfl HV2.out (by rw [aK,aK];exact HLL.out) (Nat.le_trans HK.out.size HK2.out.size) ?_;intro v' w' h5 _ h6;have H5:=ae h5;have H6:=ae h6;clear h5 h6))
   obtain ⟨a5,c5,rfl⟩:=H5.out.at.shape;go_roundg (n - (k+1))
   case measure=>omega
   case rel=>exact ⟨k+1,by omega,by go_num,Nat.le_refl _,ae (by rw [HST.out,gB];exact H5.out),ae ((HK.out.trans HK2.out).app H6.out)⟩
  ·have hke:k=n:=by omega
   have hkn:¬ (k:Int)<(n:Int):=by omega
   have ht:l.take k=l:=by rw [hke,HN.out];exact List.take_length
   rw [ht] at HO e8;rw [<-HZ.out] at e8;clear ht hke;subst e8;by_cases hmz:most<z
   ·have hmi:(most:Int)<(z:Int):=by omega
    go_wp2;go_ret2;exact ⟨by rw [bJ (by omega)];rfl,HK.out⟩
   ·have hmi:¬ (most:Int)<(z:Int):=by omega
    go_wp2;go_ret2;exact ⟨⟨_,rfl,HO.out.at⟩,HK.out⟩
theorem s_ {xs:List Int} (h:dG xs=0):xs.length<=1024/\z_ xs=true:=by
 unfold dG at h;by_cases he:dh xs=0
 ·exact rt he
 ·rw [if_pos he] at h;exact absurd h he
def ce (xs:List Int):Nat × List (Nat × Nat):=if dG xs≠0 then (dG xs,[]) else match cO (bz xs) with | none=>(4,[]) | some l=>(0,l)
theorem np (most:Nat) (L:List Nat) (l:List (Nat × Nat)) (j:Nat) (hj:j<L.length):eM most (L.drop j) l=if most<(bn l L[j]).length then none else eM most (L.drop (j+1)) (bn l L[j]):=by
 rw [List.drop_eq_getElem_cons hj,eM]
theorem fg (pre:List Nat) (out:List (Nat × Nat)) (L:List Nat) (k:Nat) (hk:k<L.length):cubesC pre out (L.drop k)=match eM (1024 - out.length) pre [(L[k],0)] with | none=>none | some l=>cubesC (pre++[L[k]]) (out++l) (L.drop (k+1)):=by
 rw [List.drop_eq_getElem_cons hk,cubesC];cases eM (1024 - out.length) pre [(L[k],0)] <;> rfl
theorem pX {most ol s:Nat} {bs:List Nat} {l:List (Nat × Nat)} (h:eM most bs [(s,0)]=some l) (hm:most=1024 - ol) (ho:ol<=1024) (h0:bs=[]->ol=0):ol+l.length<=1024:=by
 by_cases hb:bs=[]
 ·subst hb;cases h;have:=h0 rfl;simp;omega
 ·have:=xd h hb;omega
theorem yH {b:Nat} {c:Nat × Nat} (hc:c.1<16777216/\c.2<16777216):∀ d∈cj c b,d.1<16777216/\d.2<16777216:=by
 intro d hd;unfold cj at hd;split at hd
 ·rw [List.mem_singleton] at hd;rw [hd];exact hc
 ·refine jN (Pr:=fun d=>d.1<16777216/\d.2<16777216) (gp _) (fun i hi=>?_) ?_ d hd
  ·have:=(dK hi).2;rw [bA,Bool.and_eq_true] at this;simpa using this.2
  ·intro y' i hi h4 _ _;refine ⟨nc fun j hj=>?_,nc fun j hj=>?_⟩
   ·rcases h4 j hj with h | h
    ·exact jG hc.1 h
    ·exact (dK h).1
   ·replace hj:(c.2 ||| 2^i).testBit j=true:=hj;rw [Nat.testBit_or,Nat.testBit_two_pow,Bool.or_eq_true,decide_eq_true_eq] at hj;rcases hj with h | rfl
    ·exact jG hc.2 h
    ·exact (dK hi).1
theorem ty {b:Nat} {l:List (Nat × Nat)} (hl:∀ c∈l,c.1<16777216/\c.2<16777216):∀ d∈bn l b,d.1<16777216/\d.2<16777216:=by
 intro d hd;obtain ⟨c,hc,hd⟩:=List.mem_flatMap.1 hd;exact yH (hl c hc) d hd
theorem mK (va:Value) (xs:List Int) (w:World) (hv:aq w va xs) :
  Calls Tryz.prog 75 #[va] w fun e w'=>(∃ v',e=.returned (.tuple #[v',bI (ce xs).1])/\aY w' v' (aP (ce xs).2))/\af w w':=by
 have HC:=ae fun W (h:af w W)=>rx va xs W (hv.kept h)
 obtain ⟨a,m,c,rfl⟩:=hv.shape;by_cases h0:dG xs=0
 ·obtain ⟨hlen,hok⟩:=s_ h0;obtain ⟨hxs,hmk⟩:=kR hok;have hcr:ce xs=match cO (bz xs) with | none=>(4,[]) | some l=>(0,l):=by unfold ce;rw [if_neg (by omega)]
  obtain ⟨q,hq⟩:∃ q,q=(ce xs).1:=⟨_,rfl⟩;obtain ⟨Lr,hLr⟩:∃ Lr,Lr=(ce xs).2:=⟨_,rfl⟩;rw [<-hq,<-hLr];rw [hcr] at hq hLr;rw [h0,dd] at HC;obtain ⟨ns,hns⟩:∃ ns,ns=bz xs:=⟨_,rfl⟩;rw [<-hns] at hxs hmk hq hLr;have hnl:ns.length<=1024:=by rw [hns];unfold bz;rw [List.length_map];exact hlen
  have hml:m=ns.length:=by
   obtain ⟨a',c',he,_⟩:=hv;injection he with _ he _
   rw [he,hns];unfold bz;rw [List.length_map]
  have HS:Hid (aq w (.slice a m c) (aO ns)):=ae (by rw [<-hxs];exact hv);have HMK:Hid (∀ s∈ns,s<16777216):=ae fun s hs=>by have:=hmk s hs;unfold Mk at this;omega
  have HML:=ae hml;have HWI:=ae fun va l s most W hv hl hb hs hm=>qP va l s most W hv hl hb hs hm
  obtain ⟨R,hR⟩:∃ R,R=cO ns:=⟨_,rfl⟩;rw [<-hR] at hq hLr;have HR:=ae hR;have HQS:Hid (∀ o,R=some o->q=0/\Lr=o):=ae fun o h=>by rw [h] at hq hLr;exact ⟨hq,hLr⟩
  have HQN:Hid (R=none->q=4/\Lr=[]):=ae fun h=>by rw [h] at hq hLr;exact ⟨hq,hLr⟩
  have hm9:m<=1024:=by omega
  clear hv hxs hmk hnl hml hR hns hcr h0 hlen hok hq hLr;go_enter Tryz.func75,Tryz.ntmps75;go_wp2_with fail;refine (HC.out _ (af.refl _)).mono ?_;rintro e w2 ⟨rfl,hk2⟩;have HK2:=ae hk2;clear hk2;go_wp2_with fail;go_loopg [5,21] m (fun kx s5 s21 wr=>∃ (k:Nat) (out:List (Nat × Nat)),k<=m/\s21=.int .i64 k/\m - k<=kx/\out.length<=1024/\Hid (bv wr w2.heap.size s5 (aP out))/\Hid (cubesC (ns.take k) out (ns.drop k)=R)/\Hid (ns.take k=[]->out=[])/\Hid (af w2 wr))
  case atStart=>exact ⟨0,[],Nat.zero_le _,rfl,by omega,by simp,ae (bv.nil _ _),ae (by rw [HR.out];simp [cO]),ae (fun _=>rfl),ae (af.refl _)⟩
  case round =>
   obtain ⟨k,out,hk,rfl,hkx,hol,HO,HCC,HE0,HK⟩:=hrel;obtain ⟨a5,c5,e5⟩:=HO.out.at.shape;rw [aK] at e5;by_cases hlt:k<m
   ·have hkl:k<ns.length:=by have:=HML.out;omega
    have hkn:(k:Int)<(m:Int):=by omega
    obtain ⟨fa',fc',he1,⟨he6,_⟩,_,he2⟩:=HS.out;injection he1 with he3 he4 he5
    subst he3;have hkc:k<=c:=by rw [he5];omega
    have hkc1:¬ (c:Int)<(k:Int):=by omega
    have hkc2:(k:Int)<=(c:Int):=by omega
    obtain ⟨b,o,rfl,hce⟩:=he2 k (by simpa [aO] using hkl);obtain ⟨s,hs⟩:∃ s,s=ns[k]:=⟨_,rfl⟩;have e1:(aO ns)[k]'(by simpa [aO] using hkl)=(s:Int):=by rw [hs];simp [aO]
    rw [e1] at hce;have hcr:=HK.out.cell (HK2.out.cell hce);have HSS:=ae hs;obtain ⟨ol,hol2⟩:∃ ol,ol=out.length:=⟨_,rfl⟩;rw [<-hol2] at e5 hol;obtain ⟨most,hmost⟩:∃ most,most=1024 - ol:=⟨_,rfl⟩
    have HWK:Hid (∀ va l (s:Nat) W,aY W va (aP l)->l.length<=1024->(∀ c∈l,c.1<16777216/\c.2<16777216)->s<16777216->Calls Tryz.prog 122 #[va,.int .i64 s,.int .i64 (1024 - (ol:Int))] W fun e w'=>((most<(bn l s).length/\e=.returned (.tuple #[.slice none 0 0,bI 4]))\/(¬ most<(bn l s).length/\∃ v,e=.returned (.tuple #[v,.nilIface])/\aY w' v (aP (bn l s))))/\af W w'):=ae fun va l s W h1 h2 h3 h4=>by
     have e:(1024:Int) - (ol:Int)=(most:Int):=by omega
     rw [e];exact HWI.out va l s most W h1 h2 h3 h4 (by omega)
    have HOL:=ae hol2;have HMO:=ae hmost;have hmo:most<=1024:=by omega
    have hki:¬ (k:Int)<0:=by omega
    subst e5;clear he2 he4 he5 he6 e1 hce hs hol2 hmost;go_wp2_with fail;obtain ⟨wo,rfl⟩:∃ wo:World,wo=wr:=⟨_,rfl⟩;obtain ⟨w5,hw5⟩:∃ w5,w5=wo.alloc (.cells #[.int .i64 s,.int .i64 0] 114):=⟨_,rfl⟩;have HL5:Hid (aY w5 (.slice (some ⟨wo.heap.size,0,none⟩) 1 1) (aP [(s,0)])):=ae (by rw [hw5];exact (jq wo 0 ((s:Int),((0:Nat):Int)) (Nat.zero_le _)).at);have HK5:Hid (af wo w5):=ae (by rw [hw5];exact (af.refl wo).alloc _);have hs24:s<16777216:=HMK.out s (by rw [HSS.out];exact List.getElem_mem hkl);rw [<-hw5];have HB5:Hid (∀ c∈[(s,0)],c.1<16777216/\c.2<16777216):=ae fun c hc=>by rw [List.mem_singleton] at hc;rw [hc];exact ⟨hs24,by show (0:Nat)<16777216;decide⟩
    clear hw5 hs24;go_loopg [9,36] k (fun jx s9 s36 W=>∃ (j:Nat) (l:List (Nat × Nat)),j<=k/\s36=.int .i64 j/\k - j<=jx/\l.length<=1024/\Hid (aY W s9 (aP l))/\Hid (eM most ((ns.take k).drop j) l=eM most (ns.take k) [(s,0)])/\Hid (∀ c∈l,c.1<16777216/\c.2<16777216)/\Hid (af wo W))
    case atStart=>exact ⟨0,[(s,0)],Nat.zero_le _,rfl,by omega,by simp,HL5,ae (by rw [List.drop_zero]),HB5,HK5⟩
    case round =>
     obtain ⟨j,l,hj,rfl,hjx,hll,HL,HOW,HBL,HKW⟩:=hrel;obtain ⟨a9,c9,e9⟩:=HL.out.shape;rw [aK] at e9;by_cases hjk:j<k
     ·have hji:(j:Int)<(k:Int):=by omega
      have hjl:j<ns.length:=by omega
      have hce2:=HS.out;obtain ⟨fa',fc',he1,_,_,he2⟩:=hce2;injection he1 with he3 he4 he5
      subst he3;obtain ⟨b',o',he7,hce⟩:=he2 j (by simpa [aO] using hjl);cases he7;obtain ⟨y,hy⟩:∃ y,y=ns[j]:=⟨_,rfl⟩;have e1:(aO ns)[j]'(by simpa [aO] using hjl)=(y:Int):=by rw [hy];simp [aO]
      rw [e1] at hce;have hcy:=HKW.out.cell (HK.out.cell (HK2.out.cell hce));have hy24:y<16777216:=HMK.out y (by rw [hy];exact List.getElem_mem hjl)
      have HST:Hid (eM most ((ns.take k).drop j) l=if most<(bn l y).length then none else eM most ((ns.take k).drop (j+1)) (bn l y)):=ae (by
       have h:=np most (ns.take k) l j (by rw [List.length_take];omega);have e:(ns.take k)[j]'(by rw [List.length_take];omega)=y:=by rw [List.getElem_take,hy]
       rw [e] at h;exact h)
      have HWC:=ae (HWK.out _ l y _ HL.out hll HBL.out hy24);have HBW:=ae (ty (b:=y) (l:=l) HBL.out);subst e9;clear he2 he4 he5 hce e1 hy hy24;go_wp2_with (go_at_call 122;refine HWC.out.mono ?_);rintro e w6 ⟨h6,hk6⟩;have HK6:=ae hk6;rcases h6 with ⟨hlt6,rfl⟩ | ⟨hge6,v6,rfl,hv6⟩
      ·rw [bJ (by omega)]
       have HN:Hid (R=none):=ae (by
        rw [<-HCC.out,fg (ns.take k) out ns k hkl,<-HOL.out,<-HMO.out,<-HSS.out,<-HOW.out,HST.out,if_pos hlt6])
       clear hk6 hlt6;go_wp2;go_ret2;obtain ⟨e1,e2⟩:=HQN.out HN.out;rw [e1,e2];exact ⟨⟨_,rfl,aY.nil _⟩,HK2.out.trans (HK.out.trans (HKW.out.trans HK6.out))⟩
      ·have HV6:=ae hv6;have HG6:=ae hge6;clear hk6 hv6 hge6;go_wp2_with fail;go_roundg (k - (j+1))
       case measure=>omega
       case rel=>exact ⟨j+1,bn l y,by omega,by go_num,Nat.le_refl _,by have:=HG6.out;omega,HV6,ae (by rw [<-HOW.out,HST.out,if_neg HG6.out]),HBW,ae (HKW.out.trans HK6.out)⟩
     ·have hje:j=k:=by omega
      have hji:¬ (j:Int)<(k:Int):=by omega
      have HOS:Hid (eM most (ns.take k) [(s,0)]=some l):=ae (by
       rw [<-HOW.out,hje,List.drop_of_length_le (by rw [List.length_take];omega)];rfl)
      have HFT:Hid (ol+l.length<=1024):=ae (pX HOS.out HMO.out hol fun h=>by rw [HOL.out,HE0.out h];rfl)
      have HCN:Hid (cubesC (ns.take (k+1)) (out++l) (ns.drop (k+1))=R):=ae (by
       have h:=HCC.out;rw [fg (ns.take k) out ns k hkl,<-HOL.out,<-HMO.out,<-HSS.out,HOS.out] at h;rw [List.take_succ_eq_append_getElem hkl,<-HSS.out];exact h)
      subst e9;clear hje;go_wp2_with (at_builtin;refine iX rfl _ _ rfl w2.heap.size _ (aP out) rfl (HO.out.kept HKW.out) _ (aP l) rfl HL.out (by rw [aK,aK,<-HOL.out];have:=HFT.out;omega) (Nat.le_trans HK.out.size HKW.out.size) ?_;intro v' w' h5 _ h6;have H5:=ae h5;have H6:=ae h6;clear h5 h6);go_roundg (m - (k+1))
      case measure=>omega
      case rel =>
       refine ⟨k+1,out++l,by omega,by go_num,Nat.le_refl _,by rw [List.length_append,<-HOL.out];exact HFT.out,ae (by rw [gB];exact H5.out),HCN,ae (fun h=>?_),ae ((HK.out.trans HKW.out).app H6.out)⟩;have:=congrArg List.length h;rw [List.length_take,List.length_nil] at this;omega
   ·have hke:k=m:=by omega
    have hkn:¬ (k:Int)<(m:Int):=by omega
    have HE:Hid (R=some out):=ae (by
     have h:=HCC.out;rw [hke,HML.out,List.drop_length] at h;exact h.symm)
    subst e5;clear hke;go_wp2;go_ret2;obtain ⟨e1,e2⟩:=HQS.out _ HE.out;rw [e1,e2];exact ⟨⟨_,rfl,HO.out.at⟩,HK2.out.trans HK.out⟩
 ·have hcr:ce xs=(dG xs,[]):=by unfold ce;rw [if_pos h0]
  rw [hcr];obtain ⟨q,hq⟩:∃ q,q=dG xs:=⟨_,rfl⟩;rw [<-hq] at HC h0⊢;rw [bJ h0] at HC⊢;clear hv hq hcr;go_enter Tryz.func75,Tryz.ntmps75;go_wp2_with (go_at_call 94;refine (HC.out _ (af.refl _)).mono ?_;rintro e w2 ⟨rfl,hk2⟩;have HK2:=ae hk2;clear hk2);go_ret2;exact ⟨⟨_,rfl,aY.nil _⟩,HK2.out⟩
theorem rq (s:Nat):(dJ s).length<=24:=gL s 24
theorem aq.get {w:World} {a:Option Addr} {n c:Nat} {xs:List Int} (h:aq w (.slice a n c) xs) (i:Nat) (hi:i<xs.length):∃ b o,a=some ⟨b,o,none⟩/\w.cell? ⟨b,o+i,none⟩=some (.int .i64 xs[i]):=by
 obtain ⟨a',c',h1,_,_,h5⟩:=h;injection h1 with h1
 subst h1;exact h5 i hi
theorem yg {i:Nat} (h:i<24):IntKind.i64.wrap ((2:Int)^i)=((2^i:Nat):Int):=by
 have h1:=gD h;rw [show (2:Int)^i=((2^i:Nat):Int) by simp];generalize (2:Nat)^i=z at *;exact wrap_i64 _ (by omega) (by omega)
theorem qt (y n s:Nat) (hy:y<16777216) (hn:n<16777216) (hs:s<16777216) (w:World) :
  Calls Tryz.prog 144 #[.agg #[.int .i64 y,.int .i64 n],.int .i64 s] w fun e w'=>(∃ v,e=.returned v/\aY w' v (aP (cj (y,n) s)))/\af w w':=by
 have hn63:n<9223372036854775808:=Nat.lt_trans hn (by decide);obtain ⟨z,hz⟩:∃ z,z=n &&& s:=⟨_,rfl⟩;have pz:=cR n s (by omega) (by omega);rw [<-hz] at pz;have hz2:z=s &&& n:=by rw [hz,Nat.and_comm]
 by_cases h0:z=0
 ·subst h0;rw [mX hz2.symm];obtain ⟨E,hE⟩:∃ E,E=(List.range 24).filter fun i=>(aD s y).testBit i:=⟨_,rfl⟩
  rw [<-hE];have hE2:dJ (aD s y)=E:=hE.symm
  have HEL:Hid (∀ W,Calls Tryz.prog 160 #[.int .i64 (aD s y:Nat)] W fun e w'=>(∃ v,e=.returned v/\OwnInts w' W.heap.size v (aO E))/\af W w'):=ae fun W=>by
   have h:=mM (aD s y) (tq hs) W;rw [hE2] at h;exact h
  have HE24:Hid (∀ i∈E,i<24):=ae fun i hi=>by rw [<-hE2] at hi;exact (dK hi).1
  have hEl:E.length<=24:=by rw [<-hE2];exact rq _
  have HLY:=ae fun k=>pH (is:=E.take k) hy fun i hi=>HE24.out i (List.mem_of_mem_take hi)
  have p1:=fN s y (by omega) (by omega);obtain ⟨w1,hw1⟩:∃ w1,w1=w.alloc (.cells #[.int .i64 y,.int .i64 n] 114):=⟨_,rfl⟩;have HR1:Hid (ai w1 w.heap.size 114 [.int .i64 y,.int .i64 n]):=ae (by rw [hw1];exact ai.made w #[.int .i64 y,.int .i64 n] 114);have HK1:Hid (af w w1):=ae (by rw [hw1];exact (af.refl w).alloc _);have HS1:Hid (w1.heap.size=w.heap.size+1):=ae (by rw [hw1];simp);have HW1:=ae hw1;obtain ⟨zz,hzz⟩:∃ zz,zz=aD s y:=⟨_,rfl⟩;rw [<-hzz] at HEL p1;obtain ⟨m,hm⟩:∃ m,m=E.length:=⟨_,rfl⟩;have HM:=ae hm;rw [<-hm] at hEl;clear hz hz2 hw1 hs hE hE2 hzz hy hn hm;go_enter Tryz.func144,Tryz.ntmps144;go_wp2_with fail;rw [<-HW1.out];refine (HEL.out _).mono ?_;rintro e w2 ⟨⟨v2,rfl,hv2⟩,hk2⟩;have HOE:=ae hv2;obtain ⟨ea,ec,rfl,⟨hec,_⟩,hel,_⟩:=hv2.ints;have hlE:(aO E).length=m:=by rw [HM.out];unfold aO;rw [List.length_map]
  rw [hlE] at HOE⊢
  have HX:Hid (∀ k (hk:k<E.length),∃ g,ea=some ⟨g,0,none⟩/\w1.heap.size<=g/\g<w2.heap.size/\w2.cell? ⟨g,k,none⟩=some (.int .i64 (E[k]:Nat))):=ae fun k hk=>by
   obtain ⟨⟨_,h2⟩,_⟩:=HOE.out;rcases h2 with ⟨h3,h4⟩ | ⟨g,cap,cur,h3,h5,h6,_⟩
   ·rw [hlE] at h4;have:=HM.out;omega
   ·injection h3 with h3
    refine ⟨g,h3,h5,?_,?_⟩
    ·rcases Nat.lt_or_ge g w2.heap.size with h8 | h8
     ·exact h8
     ·simp [Array.getElem?_eq_none h8] at h6
    ·obtain ⟨b,o,h7,h8⟩:=HOE.out.ints.get k (by rw [hlE,HM.out];exact hk);rw [h3] at h7;cases h7;simpa [aO] using h8
  have HK2:=ae hk2;have HR2:=ae (HR1.out.kept hk2);clear hec hel hk2 hlE hv2;go_wp2_with fail;go_loopg [5,21] m (fun kx s5 s21 wr=>∃ k:Nat,k<=m/\s21=.int .i64 k/\m - k<=kx/\Hid (bv wr w2.heap.size s5 (aP (dg y n (E.take k))))/\Hid (ai wr w.heap.size 114 [.int .i64 (eA y (E.take k):Nat),.int .i64 n])/\Hid (aH w.heap.size w2 wr))
  case atStart=>exact ⟨0,Nat.zero_le _,rfl,by omega,ae (bv.nil _ _),HR2,ae (aH.refl _ _)⟩
  case round =>
   obtain ⟨k,hk,rfl,hkx,HO,HR,HA⟩:=hrel;obtain ⟨a5,c5,e5⟩:=HO.out.at.shape;have hnl:(E.take k).length=k:=by rw [List.length_take];have:=HM.out;omega
   rw [aK,fF,hnl] at e5;have HNL:=ae hnl;clear hnl;by_cases hlt:k<m
   ·have hkn:(k:Int)<(m:Int):=by omega
    have hkE:k<E.length:=by have:=HM.out;omega
    obtain ⟨g,rfl,hg1,hg2,hce⟩:=HX.out k hkE
    have hgc:wr.cell? ⟨g,k,none⟩=some (.int .i64 (E[k]:Nat)):=by
     rw [<-hce];have:=HA.out.block g hg2 (by have:=HS1.out;omega);simp only [World.cell?,this]
    have f2:=HLY.out k;have hi24:=HE24.out E[k] (List.getElem_mem hkE);have p2:=kS E[k] (by omega);have hp:=gD hi24;have HTK:Hid (E.take (k+1)=E.take k++[E[k]]):=ae (List.take_succ_eq_append_getElem hkE);obtain ⟨i,hi⟩:∃ i,i=E[k]:=⟨_,rfl⟩;rw [<-hi] at hgc hi24 p2 hp HTK;obtain ⟨yk,hyk⟩:∃ yk,yk=eA y (E.take k):=⟨_,rfl⟩;rw [<-hyk] at HR f2;have HYK:=ae hyk;have hy63:yk<9223372036854775808:=Nat.lt_trans f2 (by decide);have y0:=HR.out.cell (i:=0) (by simp);have y1:=HR.out.cell (i:=1) (by simp);simp only [List.getElem_cons_succ,List.getElem_cons_zero] at y0 y1;have g0:=HR.out.free 0;obtain ⟨pk,hpk⟩:∃ pk,pk=2^i:=⟨_,rfl⟩;rw [<-hpk] at p2 hp;have hp63:pk<9223372036854775808:=Nat.lt_trans hp (by decide);have p3:=gC n pk hn63 hp63;have p4:=gC yk pk hy63 hp63;obtain ⟨nk,hnk⟩:∃ nk,nk=n ||| pk:=⟨_,rfl⟩
    obtain ⟨yk',hyk'⟩:∃ yk',yk'=yk ||| pk:=⟨_,rfl⟩
    have HNK:Hid (nk=n ||| 2^i):=ae (by rw [hnk,hpk]);have HYK':Hid (yk'=yk ||| 2^i):=ae (by rw [hyk',hpk]);rw [<-hnk] at p3;rw [<-hyk'] at p4
    have HEQ:Hid (bits .or .i64 (n:Int) (IntKind.i64.wrap (2^i))=(nk:Int)):=ae (by
     rw [yg hi24,<-hpk,p3])
    have hi0:¬ (i:Int)<0:=by omega
    have hsh:¬ (64:Int)<=(i:Int):=by omega
    subst e5;clear hce hg1 hg2 f2 hi hyk hpk hnk hyk' hp hp63 hy63 hkE;have HKD:Hid (∀ o:Obj,af wr (wr.drew.alloc o)/\af wr ((wr.alloc o).drew)/\af wr (wr.alloc o)):=ae fun o=>⟨(af.refl _).drew.alloc _,((af.refl _).alloc _).drew,(af.refl _).alloc _⟩
    have hB2:=HA.out.size;go_wp2;go_region_law (refine zc (by rfl) _ _ (by rfl) w2.heap.size _ (aP (dg y n (E.take k))) (by rfl) (HO.out.kept (by first | exact (HKD.out _).1 | exact (HKD.out _).2.1 | exact (HKD.out _).2.2)) wr.heap.size ((yk:Int),bits .or .i64 (n:Int) (IntKind.i64.wrap (2^i))) (by rfl) (by first | exact gQ wr.drew _ _ _ | exact eD (gQ wr _ _ _) ((af.refl _).drew) | exact gQ wr _ _ _) (by rw [aK,fF,HNL.out];omega) (by simp;omega) ?_;intro v7 w7 h7 hg7;have O7:=ae h7;have G7:=ae hg7;clear h7 hg7)
    all_goals
     rw [HEQ.out] at O7
     have HRD:Hid (ai w7 w.heap.size 114 [.int .i64 yk,.int .i64 n]/\aH w.heap.size w2 w7):=ae (by
      have hh:∀ W,af wr W->Below w2.heap.size W w7->ai w7 w.heap.size 114 [.int .i64 yk,.int .i64 n]/\aH w.heap.size w2 w7:=fun W h1 h2 =>
       ⟨(HR.out.kept h1).same (h2.block _ (by have:=HS1.out;have:=HK2.out.size;omega)),⟨h2.os.trans (h1.os.trans HA.out.os),h2.tape.trans (h1.tape.trans HA.out.tape),h2.output.trans (h1.output.trans HA.out.output),Nat.le_trans HA.out.size (Nat.le_trans h1.size h2.size),fun i hi hne=>(h2.block i hi).trans ((h1.block i (Nat.lt_of_lt_of_le hi HA.out.size)).trans (HA.out.block i hi hne))⟩⟩
      first
       | exact hh _ (HKD.out _).1 G7.out
       | exact hh _ (HKD.out _).2.1 G7.out
       | exact hh _ (HKD.out _).2.2 G7.out)
     obtain ⟨a7,c7,e7⟩:=O7.out.at.shape;obtain ⟨n7,hn7⟩:∃ n7,n7=(aP (dg y n (E.take k))++[((yk:Int),(nk:Int))]).length:=⟨_,rfl⟩;rw [<-hn7] at e7;subst e7;clear hn7;have z0:=HRD.out.1.cell (i:=0) (by simp);have z1:=HRD.out.1.cell (i:=1) (by simp);simp only [List.getElem_cons_succ,List.getElem_cons_zero] at z0 z1;have t0:=HRD.out.1.free 0;go_wp2;go_region
     all_goals
      go_wp2_with fail;go_roundg (m - (k+1))
      case measure=>omega
      case rel =>
       refine ⟨k+1,by omega,by go_num,Nat.le_refl _,ae ?_,ae ?_,ae ?_⟩
       ·rw [HTK.out,lE,<-HYK.out,<-HNK.out,pW];have hold:∀ W,aH w.heap.size w7 W->bv W w2.heap.size (.slice a7 n7 c7) (aP (dg y n (E.take k))++[((yk:Int),(nk:Int))]):=fun W h=>O7.out.older (by have:=HS1.out;have:=HK2.out.size;omega) h
        first
         | exact hold _ ((aH.refl _ _).store 0 _)
         | exact hold _ (((aH.refl _ _).store 0 _).trans (aH.kept (af.refl _).drew))
       ·rw [HTK.out,lF,<-HYK.out,<-HYK'.out]
        first
         | exact HRD.out.1.store 0 _
         | exact (HRD.out.1.store 0 _).kept ((af.refl _).drew)
         | (rw [p2,p4];exact HRD.out.1.store 0 _)
         | (rw [p2,p4];exact (HRD.out.1.store 0 _).kept ((af.refl _).drew))
       ·first
         | exact HRD.out.2.store 0 _
         | exact (HRD.out.2.store 0 _).trans (aH.kept (af.refl _).drew)
   ·have hke:k=m:=by omega
    have hkn:¬ (k:Int)<(m:Int):=by omega
    have HE:=HO.out.at;rw [hke,HM.out,List.take_length] at HE;have HE:=ae HE;have HF:=ae (aH.toKept HA.out (HK1.out.trans HK2.out) (Nat.le_refl _));subst e5;clear hke;go_wp2;go_ret;exact ⟨⟨_,rfl,HE.out⟩,HF.out⟩
 ·have hn0:¬ (z:Int)=0:=by omega
  rw [pG (by rw [<-hz2];exact h0)];clear hz h0 hz2;go_enter Tryz.func144,Tryz.ntmps144;go_wp2;go_ret;refine ⟨⟨_,rfl,?_⟩,((af.refl _).alloc _).alloc _⟩;have h:=(jq (w.alloc (.cells #[.int .i64 y,.int .i64 n] 114)) 0 ((y:Int),(n:Int)) (Nat.zero_le _)).at;simpa [aP,oQ] using h
theorem oC (va:Value) (xs:List Int) (w:World) (hv:aq w va xs) :
  Calls Tryz.prog 90 #[va] w fun e w'=>(∃ v',e=.returned (.tuple #[v',.int .i64 ((ce xs).1:Nat)])/\aY w' v' (aP (ce xs).2))/\af w w':=by
 have HC:=ae fun W (h:af w W)=>ow va xs W (hv.kept h)
 obtain ⟨a,m,c,rfl⟩:=hv.shape;by_cases h0:dG xs=0
 ·obtain ⟨hlen,hok⟩:=s_ h0;obtain ⟨hxs,hmk⟩:=kR hok;have hcr:ce xs=match cO (bz xs) with | none=>(4,[]) | some l=>(0,l):=by unfold ce;rw [if_neg (by omega)];try (cases cO (bz xs) <;> rfl)
  obtain ⟨q,hq⟩:∃ q,q=(ce xs).1:=⟨_,rfl⟩;obtain ⟨Lr,hLr⟩:∃ Lr,Lr=(ce xs).2:=⟨_,rfl⟩;rw [<-hq,<-hLr];rw [hcr] at hq hLr;rw [h0] at HC;obtain ⟨ns,hns⟩:∃ ns,ns=bz xs:=⟨_,rfl⟩;rw [<-hns] at hxs hmk hq hLr;have hnl:ns.length<=1024:=by rw [hns];unfold bz;rw [List.length_map];exact hlen
  have hml:m=ns.length:=by
   obtain ⟨a',c',he,_⟩:=hv;injection he with _ he _
   rw [he,hns];unfold bz;rw [List.length_map]
  have HS:Hid (aq w (.slice a m c) (aO ns)):=ae (by rw [<-hxs];exact hv);have HMK:Hid (∀ s∈ns,s<16777216):=ae fun s hs=>by have:=hmk s hs;unfold Mk at this;omega
  have HML:=ae hml;have HWI:=ae fun (c:Nat × Nat) (s:Nat) W (h:c.1<16777216/\c.2<16777216) (hs:s<16777216)=>qt c.1 c.2 s h.1 h.2 hs W
  obtain ⟨R,hR⟩:∃ R,R=cO ns:=⟨_,rfl⟩;rw [<-hR] at hq hLr;have HR:=ae hR;have HQS:Hid (∀ o,R=some o->q=0/\Lr=o):=ae fun o h=>by rw [h] at hq hLr;exact ⟨hq,hLr⟩
  have HQN:Hid (R=none->q=4/\Lr=[]):=ae fun h=>by rw [h] at hq hLr;exact ⟨hq,hLr⟩
  have hm9:m<=1024:=by omega
  clear hv hxs hmk hnl hml hR hns hcr h0 hlen hok hq hLr;go_enter Tryz.func90,Tryz.ntmps90;go_wp2_with fail;refine (HC.out _ (af.refl _)).mono ?_;rintro e w2 ⟨rfl,hk2⟩;have HK2:=ae hk2;clear hk2;go_wp2_with fail;go_loopg [5,21] m (fun kx s5 s21 wr=>∃ (k:Nat) (out:List (Nat × Nat)),k<=m/\s21=.int .i64 k/\m - k<=kx/\out.length<=1024/\Hid (bv wr w2.heap.size s5 (aP out))/\Hid (cubesC (ns.take k) out (ns.drop k)=R)/\Hid (ns.take k=[]->out=[])/\Hid (af w2 wr))
  case atStart=>exact ⟨0,[],Nat.zero_le _,rfl,by omega,by simp,ae (bv.nil _ _),ae (by rw [HR.out];simp [cO]),ae (fun _=>rfl),ae (af.refl _)⟩
  case round =>
   obtain ⟨k,out,hk,rfl,hkx,hol,HO,HCC,HE0,HK⟩:=hrel;obtain ⟨a5,c5,e5⟩:=HO.out.at.shape;rw [aK] at e5;by_cases hlt:k<m
   ·have hkl:k<ns.length:=by have:=HML.out;omega
    have hkn:(k:Int)<(m:Int):=by omega
    obtain ⟨fa',fc',he1,⟨he6,_⟩,_,he2⟩:=HS.out;injection he1 with he3 he4 he5
    subst he3;have hkc:k<=c:=by rw [he5];omega
    have hkc1:¬ (c:Int)<(k:Int):=by omega
    have hkc2:(k:Int)<=(c:Int):=by omega
    obtain ⟨b,o,rfl,hce⟩:=he2 k (by simpa [aO] using hkl);obtain ⟨s,hs⟩:∃ s,s=ns[k]:=⟨_,rfl⟩;have e1:(aO ns)[k]'(by simpa [aO] using hkl)=(s:Int):=by rw [hs];simp [aO]
    rw [e1] at hce;have hcr:=HK.out.cell (HK2.out.cell hce);have HSS:=ae hs;obtain ⟨ol,hol2⟩:∃ ol,ol=out.length:=⟨_,rfl⟩;rw [<-hol2] at e5 hol;obtain ⟨most,hmost⟩:∃ most,most=1024 - ol:=⟨_,rfl⟩;have HOL:=ae hol2;have HMO:=ae hmost;have hmo:most<=1024:=by omega
    have hki:¬ (k:Int)<0:=by omega
    subst e5;clear he2 he4 he5 he6 e1 hce hs hol2 hmost;go_wp2_with fail;obtain ⟨wo,rfl⟩:∃ wo:World,wo=wr:=⟨_,rfl⟩;obtain ⟨w5,hw5⟩:∃ w5,w5=wo.alloc (.cells #[.int .i64 s,.int .i64 0] 114):=⟨_,rfl⟩;have HL5:Hid (aY w5 (.slice (some ⟨wo.heap.size,0,none⟩) 1 1) (aP [(s,0)])):=ae (by rw [hw5];exact (jq wo 0 ((s:Int),((0:Nat):Int)) (Nat.zero_le _)).at);have HK5:Hid (af wo w5):=ae (by rw [hw5];exact (af.refl wo).alloc _);have hs24:s<16777216:=HMK.out s (by rw [HSS.out];exact List.getElem_mem hkl);rw [<-hw5];have HB5:Hid (∀ c∈[(s,0)],c.1<16777216/\c.2<16777216):=ae fun c hc=>by rw [List.mem_singleton] at hc;rw [hc];exact ⟨hs24,by show (0:Nat)<16777216;decide⟩
    clear hw5 hs24;go_loopg [8,33] k (fun jx s8 s33 W=>∃ (j:Nat) (l:List (Nat × Nat)),j<=k/\s33=.int .i64 j/\k - j<=jx/\l.length<=1024/\Hid (aY W s8 (aP l))/\Hid (eM most ((ns.take k).drop j) l=eM most (ns.take k) [(s,0)])/\Hid (∀ c∈l,c.1<16777216/\c.2<16777216)/\Hid (af wo W))
    case atStart=>exact ⟨0,[(s,0)],Nat.zero_le _,rfl,by omega,by simp,HL5,ae (by rw [List.drop_zero]),HB5,HK5⟩
    case round =>
     obtain ⟨j,l,hj,rfl,hjx,hll,HL,HOW,HBL,HKW⟩:=hrel;obtain ⟨a9,c9,e9⟩:=HL.out.shape;rw [aK] at e9;by_cases hjk:j<k
     ·have hji:(j:Int)<(k:Int):=by omega
      have hjl:j<ns.length:=by omega
      have hce2:=HS.out;obtain ⟨fa',fc',he1,_,_,he2⟩:=hce2;injection he1 with he3 he4 he5
      subst he3;obtain ⟨b',o',he7,hce⟩:=he2 j (by simpa [aO] using hjl);cases he7;obtain ⟨y,hy⟩:∃ y,y=ns[j]:=⟨_,rfl⟩;have e1:(aO ns)[j]'(by simpa [aO] using hjl)=(y:Int):=by rw [hy];simp [aO]
      rw [e1] at hce;have hcy:=HKW.out.cell (HK.out.cell (HK2.out.cell hce));have hy24:y<16777216:=HMK.out y (by rw [hy];exact List.getElem_mem hjl)
      have HST:Hid (eM most ((ns.take k).drop j) l=if most<(bn l y).length then none else eM most ((ns.take k).drop (j+1)) (bn l y)):=ae (by
       have h:=np most (ns.take k) l j (by rw [List.length_take];omega);have e:(ns.take k)[j]'(by rw [List.length_take];omega)=y:=by rw [List.getElem_take,hy]
       rw [e] at h;exact h)
      have HY24:=ae hy24;have HBW:=ae (ty (b:=y) (l:=l) HBL.out);subst e9;clear he2 he4 he5 hce e1 hy hy24;go_wp2_with fail;obtain ⟨W0,rfl⟩:∃ W0:World,W0=wr:=⟨_,rfl⟩;obtain ⟨ll,hll2⟩:∃ ll,ll=l.length:=⟨_,rfl⟩;rw [<-hll2] at hll HL⊢;have HLL:=ae hll2;clear hll2;go_loopg [11,39] ll (fun ix s11 s39 W=>∃ i:Nat,i<=ll/\s39=.int .i64 i/\ll - i<=ix/\Hid (bv W W0.heap.size s11 (aP (bn (l.take i) y)))/\Hid (af W0 W))
      case atStart=>exact ⟨0,Nat.zero_le _,rfl,by omega,ae (bv.nil _ _),ae (af.refl _)⟩
      case round =>
       obtain ⟨i,hi,rfl,hix,HO2,HKI⟩:=hrel;obtain ⟨a8,c8,e8⟩:=HO2.out.at.shape;rw [aK] at e8;by_cases hil:i<ll
       ·have hin:(i:Int)<(ll:Int):=by omega
        have hilen:i<l.length:=by have:=HLL.out;omega
        obtain ⟨b2,o2,rfl,hrg⟩:=HL.out.cells i hilen;have hrg2:=eD hrg HKI.out;have y0:=hrg2 0 _ rfl;have y1:=hrg2 1 _ rfl;rw [Nat.add_zero] at y0;have HLC:=ae fun W=>HWI.out l[i] y W (HBL.out _ (List.getElem_mem hilen)) HY24.out
        have HSW:Hid (bn (l.take (i+1)) y=bn (l.take i) y++cj l[i] y):=ae (by rw [List.take_succ_eq_append_getElem hilen,mj])
        have HLW:Hid ((bn (l.take i) y).length+(cj l[i] y).length<=1099511627776):=ae (by
         have h1:=kp y (l.take i);have h2:=jM l[i] y;have h3:(l.take i).length<=i:=by rw [List.length_take];omega
         omega)
        obtain ⟨z0,hz0⟩:∃ z0,z0=l[i].1:=⟨_,rfl⟩;obtain ⟨z1,hz1⟩:∃ z1,z1=l[i].2:=⟨_,rfl⟩;obtain ⟨M,hM⟩:∃ M,M=cj l[i] y:=⟨_,rfl⟩;have e:(l[i].1,l[i].2)=l[i]:=rfl;rw [e,<-hM] at HLC;rw [<-hz0,<-hz1] at HLC;rw [<-hM] at HSW HLW;rw [<-hz0] at y0;rw [<-hz1] at y1;subst e8;clear hrg hrg2 hz0 hz1 hM e;obtain ⟨W1,rfl⟩:∃ W1:World,W1=wr:=⟨_,rfl⟩
        go_wp2_with (first
         | (go_at_call 144;refine (HLC.out _).mono ?_;rintro e w7 ⟨⟨v7,rfl,hv7⟩,hk7⟩;have HV7:=ae hv7;have HK7:=ae (((af.refl W1).alloc _).trans hk7);clear hv7 hk7)
         | (at_builtin;refine iX rfl _ _ rfl W0.heap.size _ (aP (bn (l.take i) y)) rfl (HO2.out.kept HK7.out) _ (aP M) rfl HV7.out (by rw [aK,aK];exact HLW.out) (Nat.le_trans HKI.out.size HK7.out.size) ?_;intro v' w' h5 _ h6;have H5:=ae h5;have H6:=ae h6;clear h5 h6))
        obtain ⟨a5,c5,rfl⟩:=H5.out.at.shape;go_roundg (ll - (i+1))
        case measure=>omega
        case rel=>exact ⟨i+1,by omega,by go_num,Nat.le_refl _,ae (by rw [HSW.out,gB];exact H5.out),ae ((HKI.out.trans HK7.out).app H6.out)⟩
       ·have hie:i=ll:=by omega
        have hin:¬ (i:Int)<(ll:Int):=by omega
        have ht:l.take i=l:=by rw [hie,HLL.out];exact List.take_length
        rw [ht] at HO2 e8;have HV6:=ae HO2.out.at;obtain ⟨z,hz⟩:∃ z,z=(bn l y).length:=⟨_,rfl⟩;rw [<-hz] at e8 HST;have HZ:=ae hz;have hzl:z<=24*1024:=by have h:=kp y l;have:=HLL.out;omega
        subst e8;clear hie ht hz;by_cases hlt6:most<z
        ·have hgt:(1024:Int)<(ol:Int)+(z:Int):=by have:=HMO.out;omega
         have HN:Hid (R=none):=ae (by
          rw [<-HCC.out,fg (ns.take k) out ns k hkl,<-HOL.out,<-HMO.out,<-HSS.out,<-HOW.out,HST.out,if_pos hlt6])
         clear hlt6;go_wp2;go_ret2;obtain ⟨e1,e2⟩:=HQN.out HN.out;rw [e1,e2];exact ⟨⟨_,rfl,aY.nil _⟩,HK2.out.trans (HK.out.trans (HKW.out.trans HKI.out))⟩
        ·have hgt:¬ (1024:Int)<(ol:Int)+(z:Int):=by have:=HMO.out;omega
         have HG6:=ae hlt6;clear hlt6;go_wp2_with fail;go_roundg (k - (j+1))
         case measure=>omega
         case rel=>exact ⟨j+1,bn l y,by omega,by go_num,Nat.le_refl _,by have:=HG6.out;have:=HZ.out;omega,HV6,ae (by rw [<-HOW.out,HST.out,if_neg HG6.out]),HBW,ae (HKW.out.trans HKI.out)⟩
     ·have hje:j=k:=by omega
      have hji:¬ (j:Int)<(k:Int):=by omega
      have HOS:Hid (eM most (ns.take k) [(s,0)]=some l):=ae (by
       rw [<-HOW.out,hje,List.drop_of_length_le (by rw [List.length_take];omega)];rfl)
      have HFT:Hid (ol+l.length<=1024):=ae (pX HOS.out HMO.out hol fun h=>by rw [HOL.out,HE0.out h];rfl)
      have HCN:Hid (cubesC (ns.take (k+1)) (out++l) (ns.drop (k+1))=R):=ae (by
       have h:=HCC.out;rw [fg (ns.take k) out ns k hkl,<-HOL.out,<-HMO.out,<-HSS.out,HOS.out] at h;rw [List.take_succ_eq_append_getElem hkl,<-HSS.out];exact h)
      subst e9;clear hje;go_wp2_with (at_builtin;refine iX rfl _ _ rfl w2.heap.size _ (aP out) rfl (HO.out.kept HKW.out) _ (aP l) rfl HL.out (by rw [aK,aK,<-HOL.out];have:=HFT.out;omega) (Nat.le_trans HK.out.size HKW.out.size) ?_;intro v' w' h5 _ h6;have H5:=ae h5;have H6:=ae h6;clear h5 h6);obtain ⟨a10,c10,e10⟩:=H5.out.at.shape;have hl10:¬ (1024:Int)<((aP out++aP l).length:Int):=by rw [List.length_append,aK,aK,<-HOL.out];have:=HFT.out;omega
      obtain ⟨n10,hn10⟩:∃ n10,n10=(aP out++aP l).length:=⟨_,rfl⟩;rw [<-hn10] at e10 hl10;subst e10;clear hn10;go_wp2_with fail;go_roundg (m - (k+1))
      case measure=>omega
      case rel =>
       refine ⟨k+1,out++l,by omega,by go_num,Nat.le_refl _,by rw [List.length_append,<-HOL.out];exact HFT.out,ae (by rw [gB];exact H5.out),HCN,ae (fun h=>?_),ae ((HK.out.trans HKW.out).app H6.out)⟩;have:=congrArg List.length h;rw [List.length_take,List.length_nil] at this;omega
   ·have hke:k=m:=by omega
    have hkn:¬ (k:Int)<(m:Int):=by omega
    have HE:Hid (R=some out):=ae (by
     have h:=HCC.out;rw [hke,HML.out,List.drop_length] at h;exact h.symm)
    subst e5;clear hke;go_wp2;go_ret2;obtain ⟨e1,e2⟩:=HQS.out _ HE.out;rw [e1,e2];exact ⟨⟨_,rfl,HO.out.at⟩,HK2.out.trans HK.out⟩
 ·have hcr:ce xs=(dG xs,[]):=by unfold ce;rw [if_pos h0]
  rw [hcr];obtain ⟨q,hq⟩:∃ q,q=dG xs:=⟨_,rfl⟩;rw [<-hq] at HC h0⊢;have hq0:((q:Int) != 0)=true:=by simp;omega
  have hq1:¬ (q:Int)=0:=by omega
  clear hv hq hcr;go_enter Tryz.func90,Tryz.ntmps90;go_wp2_with (go_at_call 99;refine (HC.out _ (af.refl _)).mono ?_;rintro e w2 ⟨rfl,hk2⟩;have HK2:=ae hk2;clear hk2);go_ret2;exact ⟨⟨_,rfl,aY.nil _⟩,HK2.out⟩
theorem rm (L:List (Int × Int)) (va vb:Value) (w:World) (ha:aY w va L) (hb:aY w vb L) :
  Calls Tryz.prog 87 #[va,vb] w fun e w'=>e=.returned (.bool true)/\af w w':=by
 have HA:=ae ha;have HB:=ae hb;have hl:=ha.len;obtain ⟨a0,c0,rfl⟩:=ha.shape;obtain ⟨a1,c1,rfl⟩:=hb.shape;obtain ⟨n,hn⟩:∃ n,n=L.length:=⟨_,rfl⟩;rw [<-hn] at HA HB hl⊢;have HN:=ae hn;clear ha hb hn;go_enter Tryz.func87,Tryz.ntmps87;go_wp2;go_loopg [13] n (fun kx s13 wr=>∃ k:Nat,k<=n/\s13=.int .i64 k/\n - k<=kx/\Hid (af w wr))
 case atStart=>exact ⟨0,Nat.zero_le _,rfl,by omega,ae (af.refl _)⟩
 case round =>
  obtain ⟨k,hk,rfl,hkx,HK⟩:=hrel;by_cases hlt:k<n
  ·have hkl:k<L.length:=by have:=HN.out;omega
   obtain ⟨b1,o1,rfl,g1,g2⟩:=HA.out.get k hkl;obtain ⟨b2,o2,rfl,g3,g4⟩:=HB.out.get k hkl;have x1:=HK.out.cell g1;have x2:=HK.out.cell g2;have x3:=HK.out.cell g3;have x4:=HK.out.cell g4;rw [<-Nat.add_assoc] at x2 x4;generalize (L.getD k default).1=x at *;generalize (L.getD k default).2=y at *;have hki:(k:Int)<(n:Int):=by omega
   have e1:((x:Int) == (x:Int))=true:=by simp
   have e2:((y:Int) == (y:Int))=true:=by simp
   clear g1 g2 g3 g4 hkl;go_wp2;go_quiet (fail);go_wp2;go_roundg (n - (k+1))
   case measure=>omega
   case rel=>exact ⟨k+1,by omega,by go_num,Nat.le_refl _,ae (HK.out.drewN _)⟩
  ·have hki:¬ (k:Int)<(n:Int):=by omega
   go_wp2;go_ret;exact ⟨rfl,HK.out⟩
def Be (n most:Nat):Bool:=(decide (40<n)&&decide (n<=most))||decide (3000<n)
end Go.Proofs.YtofibjflkebkpaaGreatDoor
