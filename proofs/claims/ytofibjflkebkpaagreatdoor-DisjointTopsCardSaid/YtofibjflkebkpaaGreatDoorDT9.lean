import Derived.WalkKit
import Derived.WalkSpells
import Derived.WalkLawsBesides
import Derived.Deep.QuietTactic
import Derived.BigQuiet
import Derived.Lib.Hide
import Derived.Shelf.Abstract
import Derived.Deep.RegionWith
import Derived.Laws.AppendOwnNone
import Derived.Lib.AppendZerosOnto
import Derived.Lib.SliceRun
import Derived.Lib.SlicesCompact
import Derived.Shelf.SlSortCmp.NoneTotal
import Derived.Maps.OwnOps
import Derived.Maps.OwnSet
import Derived.Maps.Views
import Derived.Deep.MidRow
import Derived.Deep.RegionHeld3
import Derived.Deep.AppendLies
import Derived.Deep.RegionLaw
import Derived.IntWalk
import Derived.StillTailTactics
import Derived.RegionTactic
import Derived.BigRegion
import Derived.ChangeAlike
import Derived.Sort.LotD2
import Derived.Sort.LotA
import Derived.Shelf.SlSortCmp.PdqK
import Derived.Deep.DeepCutAuto
import Derived.Lib.ItoaNum
import Derived.Deep.LoopGhost
import Derived.ProofKit
import Derived.OpenShut
import Derived.SizedLaws
import Derived.Lib.SmallJoins
import Derived.Deep.Slices
import Derived.Deep.Fields
import Derived.Deep.Strs
import Derived.Carry
import Derived.Lib.BitFns
import Derived.Deep.CutBlock
import Derived.Test.YtofibjflkebkpaaGreatDoorDT8
import Derived.Test.YtofibjflkebkpaaGreatDoorDT1
import Derived.Test.YtofibjflkebkpaaGreatDoorDT4
import Derived.Test.YtofibjflkebkpaaGreatDoorDT2
import Derived.Test.YtofibjflkebkpaaGreatDoorDT6
set_option maxRecDepth 100000
set_option maxHeartbeats 16000000
namespace Go.Proofs.YtofibjflkebkpaaGreatDoor
open Go.RowKit
section
open Go.RowKit
variable {Z:Option Nat}
theorem bK.room {w:World} {a:Option Addr} {n c r:Nat} (h:bK Z w (.slice a n c) r):n=(ar r).length/\n<=c:=by
 obtain ⟨a',c',h1,h2,_⟩:=OwnInts.ints h.1;injection h1 with h1 h3 h4
 rw [h4,h3];exact ⟨by simp [aO],h2.1⟩
theorem vX (V:Nat) (x:Nd) (i:Nat) (L:List Nat) (k:Nat) (h:k<L.length):(nY V x i L[k]).length<=(bp V x i L).length:=by
 have h1:=jI V x i L k h;have h2:=ip V x i L (k+1);rw [h1,List.length_append] at h2;omega
theorem qw (B V i b o n c T:Nat) (x:Nd) (ua:Option Addr) (um uc:Nat) (v:Value) (L:List Nat) (w:World) (hZ:∀ z,Z=some z->z<w.heap.size) (hV:V<=24) (hv:aw Z w B v L) (hl:L.length<=1024) (hi:i<128) (hin:i<n)
  (hnd:w.rangeAt b (o+i*3) [.int .i64 x.kind,.int .i64 x.k,.slice ua um uc]) (hia:aq w (.slice ua um uc) x.args)
  (hargs:∀ a∈x.args,0<=a/\a<(V:Int)+128) (h16:x.args.length<=16) (hkd:x.kind=0\/x.kind=2\/x.kind=3\/x.kind=4) (h4:x.kind=4->1<=x.k/\x.k<=x.args.length)
  (hne:x.kind≠0->1<=x.args.length) (hmax:∀ r∈L,∀ j,r.testBit (24+j)=true->j<=i) :
  Calls Tryz.prog 168 #[.agg #[.int .i64 V,.slice (some ⟨b,o,none⟩) n c,.int .i64 T],v,.int .i64 i] w fun e w' =>
   ((4096<(bp V x i L).length/\∃ v',e=.returned (.tuple #[v',.bool true]))\/((bp V x i L).length<=4096/\∃ v',e=.returned (.tuple #[v',.bool false])/\aw Z w' w.heap.size v' (bp V x i L)))/\af w w':=by
 have HV:=ae hv;obtain ⟨sa,sc,rfl,_⟩:=hv.slice;obtain ⟨ln,hln⟩:∃ n,n=L.length:=⟨_,rfl⟩;rw [<-hln] at HV hl⊢;have HLN:=ae hln;have HMX:=ae hmax;have HND:=ae hnd;obtain ⟨kd,kk,args⟩:=x;simp only at hia hargs h16 hkd h4 hne HND
 have hum:um=args.length:=by
  obtain ⟨_,_,h,_⟩:=hia;injection h
 have HUM:=ae hum;have hum9:um<=16:=by omega
 obtain ⟨x,hx⟩:∃ x,x=(⟨kd,kk,args⟩:Nd):=⟨_,rfl⟩;rw [<-hx]
 have HCH:Hid (∀ (K:Nat) (W:World) (q:Nat) (u:Value),K<=1000->af w W->bK Z W u q->aB 152 q->Calls Tryz.prog 228 #[.agg #[.int .i64 V,.slice (some ⟨b,o,none⟩) n c,.int .i64 T],.agg #[.int .i64 (aZ q),u],.slice ua um uc,.int .i64 K,.int .i64 4096] W fun e w'=>(∃ v',e=.returned v'/\aw Z w' W.heap.size v' (bM V args K q 4096))/\af W w'):=ae fun K W q u hK hk hu hq =>
  ox V T _ ⟨_,_,_,rfl⟩ hV args _ w hZ hia hargs (by omega) K q 4096 u W hk hu hq hK (by omega) (by omega)
 have HEX:Hid (∀ q,(kd=2->bV V x i q=ay V args args.length (aD q (2^(24+i))))/\(kd=3->bV V x i q=ay V args 1 (aD q (2^(24+i))))/\(kd=4->bV V x i q=ay V args kk.toNat (aD q (2^(24+i))))/\(kd=0->bV V x i q=if kk=1 then [aD q (2^(24+i))] else [])):=ae fun q=>by
  rw [hx];unfold bV;refine ⟨fun h=>?_,fun h=>?_,fun h=>?_,fun h=>?_⟩
  ·simp only [h];rw [if_neg (by decide),if_pos trivial,o_]
  ·simp only [h];rw [if_neg (by decide),if_neg (by decide),if_pos trivial,pb]
  ·simp only [h];rw [if_neg (by decide),if_neg (by decide),if_neg (by decide)]
  ·simp only [h];rw [if_pos trivial]
 have HRF:Hid (∀ (K q:Nat),K≠0->(bM V args K q 4096).length<=4097/\((ay V args K q).length<=4096->bM V args K q 4096=ay V args K q)/\(4096<(ay V args K q).length->4096<(bM V args K q 4096).length)):=ae fun K q hK=>by
  have h1:=se V args K q 4096 (by omega);have h2:=j' V args K q 4096 hK;exact ⟨by omega,fun h=>h1.1 (by omega),fun h=>by have:=h1.2 (by omega);omega⟩
 have hinI:(i:Int)<(n:Int):=by omega
 clear hv hln hmax hnd hia hargs h16 hum hx hZ;go_enter Tryz.func168,Tryz.ntmps168;go_wp2_with (with_reducible refine wpList_load_mid rfl 106 _ rfl b (o+i*3) rfl _ _ (f_ HND.out ((af.refl _).alloc _)) Tryz.underlying106 rfl (by kernel_rfl) ?_);obtain ⟨L1,hL1⟩:∃ W:World,W=(w.alloc (.cells #[.int .i64 V,.slice (some ⟨b,o,none⟩) n c,.int .i64 T] 41)).alloc (.cells #[.int .i64 kd,.int .i64 kk,.slice ua um uc] 106):=⟨_,rfl⟩;have HL1:=ae hL1;have HKL:Hid (af w L1):=ae (by rw [hL1];exact ((af.refl _).alloc _).alloc _);have c0:L1.cell? ⟨w.heap.size,0,none⟩=some (.int .i64 V):=by rw [hL1];simp
 have c1:L1.cell? ⟨w.heap.size,1,none⟩=some (.slice (some ⟨b,o,none⟩) n c):=by rw [hL1];simp
 have c2:L1.cell? ⟨w.heap.size,2,none⟩=some (.int .i64 T):=by rw [hL1];simp
 have m0:L1.cell? ⟨w.heap.size+1,0,none⟩=some (.int .i64 kd):=by rw [hL1];simp
 have m1:L1.cell? ⟨w.heap.size+1,1,none⟩=some (.int .i64 kk):=by rw [hL1];simp
 have m2:L1.cell? ⟨w.heap.size+1,2,none⟩=some (.slice ua um uc):=by rw [hL1];simp
 clear hL1;go_loopg [9,20] ln (fun kx s9 s20 wr=>∃ (k:Nat) (vo:Value),s9=vo/\s20=.int .i64 k/\k<=ln/\ln - k<=kx/\Hid (aw Z wr L1.heap.size vo (bp V x i (L.take k))/\(bp V x i (L.take k)).length<=4096+k)/\Hid (af L1 wr))
 case atStart=>exact ⟨0,_,rfl,rfl,Nat.zero_le _,by omega,ae ⟨by simpa [bp] using aw.nil _ _,by simp [bp]⟩,ae (by rw [HL1.out];exact af.refl _)⟩
 case round =>
  obtain ⟨k,vo,rfl,rfl,hk,hkx,HO,HK⟩:=hrel;obtain ⟨oa,oc,hvo,_⟩:=HO.out.1.slice;obtain ⟨on,hon⟩:∃ on,on=(bp V x i (L.take k)).length:=⟨_,rfl⟩;have hol:=HO.out.2;rw [<-hon] at hvo hol;subst hvo;have HON:=ae hon;have HKW:=ae (HKL.out.trans HK.out);have hszw:=HK.out.size;clear hon;by_cases hlt:k<ln
  ·have hkl:k<L.length:=by have:=HLN.out;omega
   obtain ⟨b2,qa,qm,qc,rfl,hqm,hqn,hrg⟩:=(HV.out.kept HKW.out).get k hkl;have hqr:=HV.out.lt L[k] (List.getElem_mem _);have hqx:=HMX.out L[k] (List.getElem_mem _);have hnext:=jI V x i L k hkl;have hone:=vX V x i L k hkl;obtain ⟨q,hqq⟩:∃ q,q=L[k]:=⟨_,rfl⟩;rw [<-hqq] at hqm hqn hrg hqr hqx hnext hone;unfold nY at hnext hone;have hkn:(k:Int)<(ln:Int):=by omega
   have hq9:qm<=128:=by rw [hqm];exact c_ q
   have hqc:=hqn.room.2;obtain ⟨q0,hq0⟩:∃ y,y=aZ q:=⟨_,rfl⟩;have HQ0:=ae hq0;have HRG:Hid (wr.rangeAt b2 (k*2) [.int .i64 q0,.slice qa qm qc]):=ae (by rw [hq0];exact hrg);have HQR:=ae hqr;have HQN:=ae hqn;clear hrg hqq hq0;cases hb:q.testBit (24+i) with
   | false =>
    rw [hb] at hnext;rw [if_neg (by simp)] at hnext;have HNX:=ae hnext;have hlen20:on<20000:=by omega
    have HAP:Hid (∀ W,af wr W->aw Z W L1.heap.size (.slice oa on oc) (bp V x i (L.take k))):=ae fun W hk=>HO.out.1.kept hk
    by_cases hz:ar q=[]
    ·have hm0:qm=0:=by rw [hqm,hz];rfl
     subst hm0;clear hz hqm hqn hqr hqx hnext hone hb;go_wp2_with (first | (with_reducible refine wpList_load_mid rfl 131 _ rfl b2 (k*2) rfl _ _ HRG.out Tryz.underlying131 rfl (by kernel_rfl) ?_) | (at_builtin;refine nO rfl _ _ rfl L1.heap.size _ (bp V x i (L.take k)) rfl (HAP.out _ (((af.refl _).alloc _).alloc _)) (wr.heap.size+1) q (.slice qa 0 qc) rfl (fM (by rw [<-HQ0.out];simp) (by simp)) (HQN.out.kept (((af.refl _).alloc _).alloc _)) HQR.out (by rw [<-HON.out];exact hlen20) (by simp;omega) ?_;intro v7 w7 hown7 hb7;have O7:=ae hown7;have HB7:=ae hb7;clear hown7 hb7));go_roundg (ln - (k+1))
     case measure=>omega
     case rel=>exact ⟨k+1,_,rfl,by go_num,by omega,Nat.le_refl _,ae ⟨by rw [HNX.out];exact O7.out,by rw [HNX.out,List.length_append,<-HON.out];simp;omega⟩,ae (((HK.out.alloc _).alloc _).app HB7.out)⟩
    ·obtain ⟨l,y,hly⟩:∃ l y,ar q=l++[y]:=⟨_,_,(List.dropLast_concat_getLast hz).symm⟩;have hu1:qm=l.length+1:=by rw [hqm,hly];simp
     have hym:y∈ar q:=by rw [hly];simp
     have hyb:=(aX.1 hym).2;have hyi:y≠i:=by rintro rfl;rw [hb] at hyb;cases hyb
     obtain ⟨bu,ou,rfl,hcu⟩:=hqn.get l.length (by rw [hly];simp);have hgx:(ar q)[l.length]'(by rw [hly];simp)=y:=by simp [hly]
     rw [hgx] at hcu;obtain ⟨m,hm⟩:∃ m,m=l.length:=⟨_,rfl⟩;rw [<-hm] at hcu hu1;have b1:((y:Int) != (i:Int))=true:=by simp;omega
     have e2:((qm:Int) == 0)=false:=by simp;omega
     have q1:(qm:Int) - 1=(m:Int):=by omega
     have hcu2:=((af.refl wr).alloc (.cells #[.int .i64 q0,.slice (some ⟨bu,ou,none⟩) qm qc] 131)).cell hcu;clear hz hqm hqn hqr hqx hnext hone hb hly hym hyb hyi hgx hm hcu hu1;go_wp2_with (first | (with_reducible refine wpList_load_mid rfl 131 _ rfl b2 (k*2) rfl _ _ HRG.out Tryz.underlying131 rfl (by kernel_rfl) ?_) | (at_builtin;refine nO rfl _ _ rfl L1.heap.size _ (bp V x i (L.take k)) rfl (HAP.out _ (((af.refl _).alloc _).alloc _)) (wr.heap.size+1) q (.slice (some ⟨bu,ou,none⟩) qm qc) rfl (fM (by rw [<-HQ0.out];simp) (by simp)) (HQN.out.kept (((af.refl _).alloc _).alloc _)) HQR.out (by rw [<-HON.out];exact hlen20) (by simp;omega) ?_;intro v7 w7 hown7 hb7;have O7:=ae hown7;have HB7:=ae hb7;clear hown7 hb7));go_roundg (ln - (k+1))
     case measure=>omega
     case rel=>exact ⟨k+1,_,rfl,by go_num,by omega,Nat.le_refl _,ae ⟨by rw [HNX.out];exact O7.out,by rw [HNX.out,List.length_append,<-HON.out];simp;omega⟩,ae (((HK.out.alloc _).alloc _).app HB7.out)⟩
   | true =>
    rw [hb] at hnext hone;rw [if_pos rfl] at hnext hone;have HNX:=ae hnext;have HONE:=ae hone;have hdr:=og q i hi hb (hqx);obtain ⟨q',hq'⟩:∃ z,z=aD q (2^(24+i)):=⟨_,rfl⟩;have hev':aZ q'=aZ q:=by rw [hq'];exact zP q i
    have hrl':aB 152 q':=by
     rw [hq'];intro j hj;rw [bN] at hj;simp only [Bool.and_eq_true] at hj;exact hqr j hj.1
    rw [<-hq'] at hdr;have hqm1:qm=(ar q').length+1:=by rw [hqm,hdr];simp
    have hpre:=hqn.prefix hdr;obtain ⟨bu,ou,rfl,hcu⟩:=hqn.get (ar q').length (by rw [hdr];simp);have hgx:(ar q)[(ar q').length]'(by rw [hdr];simp)=i:=by simp [hdr]
    rw [hgx] at hcu;obtain ⟨m,hm⟩:∃ m,m=qm - 1:=⟨_,rfl⟩;rw [show (ar q').length=m by omega] at hcu;rw [<-hm] at hpre;have b1:((i:Int) != (i:Int))=false:=by simp
    have e2:((qm:Int) == 0)=false:=by simp;omega
    have q1:(qm:Int) - 1=(m:Int):=by omega
    have q2:(0:Int)<=(m:Int):=by omega
    have q3:(m:Int)<=(qc:Int):=by omega
    have hcu2:=((af.refl wr).alloc (.cells #[.int .i64 q0,.slice (some ⟨bu,ou,none⟩) qm qc] 131)).cell hcu;have HQ':=ae hq';have HRL:=ae hrl';have HPRE:=ae hpre;have HEV:Hid (q0=aZ q'):=ae (by rw [hev'];exact HQ0.out);clear hqm hqn hqr hqx hnext hone hb hdr hgx hm hcu hq' hev' hrl' hpre hqm1;go_wp2_with (with_reducible refine wpList_load_mid rfl 131 _ rfl b2 (k*2) rfl _ _ HRG.out Tryz.underlying131 rfl (by kernel_rfl) ?_);go_cut [12] (fun p12 wx=>p12=.pointer (some ⟨wr.heap.size+1,0,none⟩)/\wx.cell? ⟨wr.heap.size+1,0,none⟩=some (.int .i64 q0)/\wx.cell? ⟨wr.heap.size+1,1,none⟩=some (.slice (some ⟨bu,ou,none⟩) m qc)/\Hid (af wr wx))
    case first =>
     go_region;all_goals go_wp2
     all_goals go_meet
     all_goals exact ⟨rfl,by simp,by simp,ae (by first | exact ((af.refl _).alloc _).alloc _ | exact (((af.refl _).alloc _).alloc _).drew)⟩
    case rest =>
     obtain ⟨rfl,p0,p1,HKX⟩:=hcut;have HKLX:=ae (HK.out.trans HKX.out);have d0:=HKLX.out.cell c0;have d1:=HKLX.out.cell c1;have d2:=HKLX.out.cell c2;have n0:=HKLX.out.cell m0;have n1:=HKLX.out.cell m1;have n2:=HKLX.out.cell m2;have hszx:=HKX.out.size;have HOX:=ae (HO.out.1.kept HKX.out)
     have HC1:Hid (∀ (K:Nat),K<=1000->Calls Tryz.prog 228 #[.agg #[.int .i64 V,.slice (some ⟨b,o,none⟩) n c,.int .i64 T],.agg #[.int .i64 q0,.slice (some ⟨bu,ou,none⟩) m qc],.slice ua um uc,.int .i64 K,.int .i64 4096] wc fun e w'=>(∃ v',e=.returned v'/\aw Z w' wc.heap.size v' (bM V args K q' 4096))/\af wc w'):=ae fun K hK=>by
      rw [HEV.out];exact HCH.out K wc q' _ hK (HKL.out.trans HKLX.out) (HPRE.out.kept HKX.out) HRL.out
     have HEQ:=HEX.out q;rw [<-HQ'.out] at HEQ;have HEQ2:=ae HEQ;have HON2:Hid ((bp V x i (L.take k)).length<=5200):=ae (by rw [<-HON.out];omega);clear HEQ hcu2 b1 e2 q1 q2 q3 HRG;go_upto_block 2 with fail
     go_cut [9] (fun p9 wy=>∃ (v9:Value) (M:List Nat),p9=v9/\Hid (aw Z wy L1.heap.size v9 (bp V x i (L.take k)++M))/\Hid (M.length<=4097/\(M=bV V x i q\/(4096<M.length/\4096<(bV V x i q).length)))/\Hid (af L1 wy))
     case first =>
      rcases hkd with rfl | rfl | rfl | rfl
      ·by_cases hk1:kk=1
       ·subst hk1;go_wp2_with (at_builtin;refine nO rfl _ _ rfl L1.heap.size _ (bp V x i (L.take k)) rfl (HOX.out.kept ((af.refl _).alloc _)) wc.heap.size q' (.slice (some ⟨bu,ou,none⟩) m qc) rfl (fM (by rw [<-HEV.out];simp) (by simp)) (HPRE.out.kept (HKX.out.alloc _)) HRL.out (by have:=HON2.out;omega) (by simp;omega) ?_;intro v7 w7 hown7 hb7;have O7:=ae hown7;have HB7:=ae hb7;clear hown7 hb7);go_meet;exact ⟨_,[q'],rfl,O7,ae ⟨by simp,.inl (by rw [HEQ2.out.2.2.2 (by trivial)];simp)⟩,ae ((HKLX.out.alloc _).app HB7.out)⟩
       ·have hk1':(kk == 1)=false:=by simpa using hk1
        go_wp2;go_meet;exact ⟨_,[],rfl,ae (by rw [List.append_nil];exact HOX.out),ae ⟨by simp,.inl (by rw [HEQ2.out.2.2.2 (by trivial)];simp [hk1])⟩,HKLX⟩
      ·have HC:=HC1.out um (by omega);have HC2:=ae HC;have hum0:um≠0:=by have:=hne (by decide);have:=HUM.out;omega
       have HRR:=ae (HRF.out um q' hum0);clear HC
       go_wp2_with (first
        | (go_at_call 228;refine HC2.out.mono ?_;rintro e w4 ⟨⟨v4,rfl,hv4⟩,hk4⟩;have HV4:=ae hv4;have HK4:=ae hk4;obtain ⟨va4,vc4,rfl,_⟩:=hv4.slice;clear hv4 hk4)
        | (at_builtin;refine nP rfl _ _ rfl L1.heap.size _ (bp V x i (L.take k)) rfl (HOX.out.kept HK4.out) _ _ rfl (HV4.out.mono (Nat.zero_le _)) (by have:=HON2.out;have:=HRR.out.1;omega) (by have:=HK4.out.size;omega) ?_;intro v7 w7 hown7 hb7;have O7:=ae hown7;have HB7:=ae hb7;clear hown7 hb7))
       go_meet
       exact ⟨_,_,rfl,O7,ae ⟨HRR.out.1,by
        rw [HEQ2.out.1 (by trivial),<-HUM.out];by_cases h:(ay V args um q').length<=4096
        ·exact .inl (HRR.out.2.1 h)
        ·exact .inr ⟨HRR.out.2.2 (by omega),by omega⟩⟩,ae ((HKLX.out.trans HK4.out).app HB7.out)⟩
      ·have HC2:=ae (HC1.out 1 (by omega));have HRR:=ae (HRF.out 1 q' (by omega))
       go_wp2_with (first
        | (go_at_call 228;refine HC2.out.mono ?_;rintro e w4 ⟨⟨v4,rfl,hv4⟩,hk4⟩;have HV4:=ae hv4;have HK4:=ae hk4;obtain ⟨va4,vc4,rfl,_⟩:=hv4.slice;clear hv4 hk4)
        | (at_builtin;refine nP rfl _ _ rfl L1.heap.size _ (bp V x i (L.take k)) rfl (HOX.out.kept HK4.out) _ _ rfl (HV4.out.mono (Nat.zero_le _)) (by have:=HON2.out;have:=HRR.out.1;omega) (by have:=HK4.out.size;omega) ?_;intro v7 w7 hown7 hb7;have O7:=ae hown7;have HB7:=ae hb7;clear hown7 hb7))
       go_meet
       exact ⟨_,_,rfl,O7,ae ⟨HRR.out.1,by
        rw [HEQ2.out.2.1 (by trivial)];by_cases h:(ay V args 1 q').length<=4096
        ·exact .inl (HRR.out.2.1 h)
        ·exact .inr ⟨HRR.out.2.2 (by omega),by omega⟩⟩,ae ((HKLX.out.trans HK4.out).app HB7.out)⟩
      ·obtain ⟨K,rfl⟩:=Int.eq_ofNat_of_zero_le (show 0<=kk by have:=h4 rfl;omega);have h4':=h4 rfl;have HC2:=ae (HC1.out K (by have:=HUM.out;omega));have HRR:=ae (HRF.out K q' (by omega));clear h4'
       go_wp2_with (first
        | (go_at_call 228;refine HC2.out.mono ?_;rintro e w4 ⟨⟨v4,rfl,hv4⟩,hk4⟩;have HV4:=ae hv4;have HK4:=ae hk4;obtain ⟨va4,vc4,rfl,_⟩:=hv4.slice;clear hv4 hk4)
        | (at_builtin;refine nP rfl _ _ rfl L1.heap.size _ (bp V x i (L.take k)) rfl (HOX.out.kept HK4.out) _ _ rfl (HV4.out.mono (Nat.zero_le _)) (by have:=HON2.out;have:=HRR.out.1;omega) (by have:=HK4.out.size;omega) ?_;intro v7 w7 hown7 hb7;have O7:=ae hown7;have HB7:=ae hb7;clear hown7 hb7))
       go_meet
       exact ⟨_,_,rfl,O7,ae ⟨HRR.out.1,by
        rw [HEQ2.out.2.2.1 (by trivial),Int.toNat_natCast];by_cases h:(ay V args K q').length<=4096
        ·exact .inl (HRR.out.2.1 h)
        ·exact .inr ⟨HRR.out.2.2 (by omega),by omega⟩⟩,ae ((HKLX.out.trans HK4.out).app HB7.out)⟩
     case rest =>
      obtain ⟨v9,M,rfl,HO9,HM9,HK9⟩:=hcut;obtain ⟨a9,c9,hv9,_⟩:=HO9.out.slice;obtain ⟨n9,hn9⟩:∃ n,n=(bp V x i (L.take k)++M).length:=⟨_,rfl⟩;rw [<-hn9] at hv9;subst hv9;have HN9:=ae hn9;clear hn9 d0 d1 d2 n0 n1 n2 p0 p1;by_cases hbig:4096<n9
      ·have hbig':(n9:Int) > 4096:=by omega
       go_wp2;go_ret2;refine ⟨.inl ⟨?_,_,rfl⟩,HKL.out.trans HK9.out⟩;rcases HM9.out.2 with h | ⟨_,h⟩
       ·have h2:=ip V x i L (k+1);rw [HNX.out,<-h] at h2;have:=HN9.out;omega
       ·exact Nat.lt_of_lt_of_le h HONE.out
      ·have hbig':¬ (n9:Int) > 4096:=by omega
       have hM:M=bV V x i q:=by
        rcases HM9.out.2 with h | ⟨h,_⟩
        ·exact h
        ·have:=HN9.out;rw [List.length_append] at this;omega
       have HF:Hid (aw Z wc L1.heap.size (.slice a9 n9 c9) (bp V x i (L.take (k+1)))/\(bp V x i (L.take (k+1))).length<=4096+(k+1)):=ae (by
        rw [HNX.out,<-hM];exact ⟨HO9.out,by rw [<-HN9.out];omega⟩)
       clear hM;go_wp2;go_roundg (ln - (k+1))
       case measure=>omega
       case rel=>exact ⟨k+1,_,rfl,by go_num,by omega,Nat.le_refl _,HF,HK9⟩
  ·have hkn:¬ (k:Int)<(ln:Int):=by omega
   have hfull:bp V x i (L.take k)=bp V x i L:=by rw [show k=ln by omega,HLN.out,List.take_length]
   have HFU:=ae hfull;clear hfull;by_cases hbig:4096<on
   ·have hbig':(on:Int) > 4096:=by omega
    go_wp2;go_ret2;exact ⟨.inl ⟨by rw [<-HFU.out,<-HON.out];exact hbig,_,rfl⟩,HKW.out⟩
   ·have hbig':¬ (on:Int) > 4096:=by omega
    go_wp2;go_ret2;exact ⟨.inr ⟨by rw [<-HFU.out,<-HON.out];omega,_,rfl,by have:=HO.out.1;rw [HFU.out] at this;exact this.mono HKL.out.size⟩,HKW.out⟩
end
section
open Go.RowKit
variable {Z:Option Nat}
def fS (L:List Nat) (i m:Nat):Bool:=(List.range m).all fun j=>!zq L i j
theorem pB (L:List Nat) (i j:Nat):fS L i (j+1)=(fS L i j&&!zq L i j):=by
 unfold fS;rw [List.range_succ,List.all_append];simp
theorem pq (L:List Nat) (i:Nat) (h:i<L.length):L.getD i 0=L[i]:=by
 rw [List.getD_eq_getElem?_getD,List.getElem?_eq_getElem h];rfl
theorem oD (B:Nat) (v:Value) (L:List Nat) (w:World) (hv:aw Z w B v L):Calls Tryz.prog 169 #[v] w fun e w'=>(∃ v',e=.returned v'/\aw Z w' w.heap.size v' (ke L))/\af w w':=by
 have HV:=ae hv;have hl9:=hv.len;obtain ⟨sa,sc,rfl,_⟩:=hv.slice;obtain ⟨n,hn⟩:∃ n,n=L.length:=⟨_,rfl⟩;rw [<-hn] at HV hl9⊢;have HN:=ae hn;clear hn hv;go_enter Tryz.func169,Tryz.ntmps169;go_wp2;go_loopg [3,11] n (fun kx s3 s11 wr=>∃ (i:Nat) (vo:Value),s3=vo/\s11=.int .i64 i/\i<=n/\n - i<=kx/\Hid (aw Z wr w.heap.size vo (cJ L i))/\Hid (af w wr))
 case atStart=>exact ⟨0,_,rfl,rfl,Nat.zero_le _,by omega,ae (aw.nil _ _),ae (af.refl _)⟩
 case round =>
  obtain ⟨wo,rfl⟩:∃ wo:World,wo=wr:=⟨_,rfl⟩;obtain ⟨i,vo,rfl,rfl,hi,hix,HO,HK⟩:=hrel;obtain ⟨oa,oc,hvo,_⟩:=HO.out.slice;obtain ⟨on,hon⟩:∃ on,on=(cJ L i).length:=⟨_,rfl⟩;rw [<-hon] at hvo;subst hvo;have HON:=ae hon;clear hon;by_cases hlt:i<n
  ·have hil:i<L.length:=by have:=HN.out;omega
   obtain ⟨b,ia,im,ic,rfl,him,hnd,hrg⟩:=(HV.out.kept HK.out).get i hil;have hc152:aB 152 L[i]:=HV.out.lt _ (List.getElem_mem _);have HRG:=ae hrg;have HND:=ae hnd;have HRL:=ae hc152;have hin:(i:Int)<(n:Int):=by omega
   have him9:im<=128:=by rw [him];exact c_ _
   have HGI:=ae (pq L i hil);have hsz:=HK.out.size;obtain ⟨x,hx⟩:∃ x,x=L[i]:=⟨_,rfl⟩;rw [<-hx] at HRG HND HRL HGI;obtain ⟨x0,hx0⟩:∃ y,y=aZ x:=⟨_,rfl⟩;have HX0:=ae hx0;rw [<-hx0] at HRG;clear hrg hnd hc152 him hx hx0;go_wp2_with (with_reducible refine wpList_load_mid rfl 131 _ rfl b (i*2) rfl _ _ HRG.out Tryz.underlying131 rfl (by kernel_rfl) ?_);obtain ⟨L5,hL5⟩:∃ W:World,W=wo.alloc (.cells #[.int .i64 x0,.slice ia im ic] 131):=⟨_,rfl⟩;have HL5:=ae hL5;have HK5:Hid (af wo L5):=ae (by rw [hL5];exact (af.refl _).alloc _);have e0:L5.cell? ⟨wo.heap.size,0,none⟩=some (.int .i64 x0):=by rw [hL5];simp
   have e1:L5.cell? ⟨wo.heap.size,1,none⟩=some (.slice ia im ic):=by rw [hL5];simp
   clear hL5;go_loopg [6,18] n (fun kx s6 s18 wr=>∃ (j:Nat) (bb:Bool),s6=.bool bb/\s18=.int .i64 j/\j<=n/\n - j<=kx/\Hid (bb=fS L i j)/\Hid (af L5 wr))
   case atStart=>exact ⟨0,true,rfl,rfl,Nat.zero_le _,by omega,ae rfl,ae (by rw [HL5.out];exact af.refl _)⟩
   case round =>
    obtain ⟨j,bb,rfl,rfl,hj,hjx,HB,HKJ⟩:=hrel;have d0:=HKJ.out.cell e0;have d1:=HKJ.out.cell e1;by_cases hlj:j<n
    ·have hjl:j<L.length:=by have:=HN.out;omega
     obtain ⟨b',ja,jm,jc,hbb,hjm,hndj,hrgj⟩:=(HV.out.kept ((HK.out.trans HK5.out).trans HKJ.out)).get j hjl;have hbb2:b=b':=by simpa using hbb
     subst hbb2;have hcj:aB 152 L[j]:=HV.out.lt _ (List.getElem_mem _);have hjn:(j:Int)<(n:Int):=by omega
     have hjm9:jm<=128:=by rw [hjm];exact c_ _
     have hst:=pB L i j;unfold zq at hst;rw [HGI.out,pq L j hjl,<-HB.out] at hst;obtain ⟨y,hy⟩:∃ y,y=L[j]:=⟨_,rfl⟩;rw [<-hy] at hndj hrgj hcj hst
     have HP1:Hid (∀ W,af wr W->Calls Tryz.prog 229 #[.agg #[.int .i64 (aZ y),.slice ja jm jc],.agg #[.int .i64 x0,.slice ia im ic]] W fun e w'=>e=.returned (.bool (subN y x))/\af W w'):=ae fun W hk=>by
      rw [HX0.out];exact l_ hcj _ _ W (hndj.kept hk) (HND.out.kept ((HK5.out.trans HKJ.out).trans hk))
     have HP2:Hid (∀ W,af wr W->Calls Tryz.prog 229 #[.agg #[.int .i64 x0,.slice ia im ic],.agg #[.int .i64 (aZ y),.slice ja jm jc]] W fun e w'=>e=.returned (.bool (subN x y))/\af W w'):=ae fun W hk=>by
      rw [HX0.out];exact l_ HRL.out _ _ W (HND.out.kept ((HK5.out.trans HKJ.out).trans hk)) (hndj.kept hk)
     have HRGJ:=ae hrgj;clear hndj hrgj hcj hjm hy hbb;generalize subN y x=p1 at *;generalize subN x y=p2 at *;generalize aZ y=y0 at *;by_cases hij:i=j
     ·have b0:((i:Int) != (j:Int))=false:=by simp;omega
      rw [show decide (i≠j)=false by simpa using hij] at hst;have HST:Hid (bb=fS L i (j+1)):=ae (by rw [hst];simp);clear hst hij HP1 HP2;go_wp2_with (with_reducible refine wpList_load_mid rfl 131 _ rfl b (j*2) rfl _ _ HRGJ.out Tryz.underlying131 rfl (by kernel_rfl) ?_);go_roundg (n - (j+1))
      case measure=>omega
      case rel=>exact ⟨j+1,bb,rfl,by go_num,by omega,Nat.le_refl _,HST,ae (HKJ.out.alloc _)⟩
     ·have b0:((i:Int) != (j:Int))=true:=by simp;omega
      rw [show decide (i≠j)=true by simpa using hij] at hst;have d0':=((af.refl wr).alloc (.cells #[.int .i64 y0,.slice ja jm jc] 131)).cell d0;have d1':=((af.refl wr).alloc (.cells #[.int .i64 y0,.slice ja jm jc] 131)).cell d1;cases p1 with
      | false =>
       have HST:Hid (bb=fS L i (j+1)):=ae (by rw [hst];simp);clear hst hij HP2;go_wp2_with (first | (with_reducible refine wpList_load_mid rfl 131 _ rfl b (j*2) rfl _ _ HRGJ.out Tryz.underlying131 rfl (by kernel_rfl) ?_) | (go_at_call 229;(with_reducible refine (HP1.out _ ((af.refl wr).alloc _)).mono ?_);rintro e w4 ⟨rfl,hk4⟩));go_roundg (n - (j+1))
       case measure=>omega
       case rel=>exact ⟨j+1,bb,rfl,by go_num,by omega,Nat.le_refl _,HST,ae ((HKJ.out.alloc _).trans hk4)⟩
      | true =>
       cases p2 with
       | false =>
        have HST:Hid (false=fS L i (j+1)):=ae (by rw [hst];simp);clear hst hij;go_wp2_with (first | (with_reducible refine wpList_load_mid rfl 131 _ rfl b (j*2) rfl _ _ HRGJ.out Tryz.underlying131 rfl (by kernel_rfl) ?_) | (go_at_call 229;(with_reducible refine (HP1.out _ ((af.refl wr).alloc _)).mono ?_);rintro e w4 ⟨rfl,hk4⟩;have HK4:=ae (((af.refl wr).alloc _).trans hk4);have g0:=hk4.cell d0';have g1:=hk4.cell d1';have h0:=hk4.cell (p:=⟨wr.heap.size,0,none⟩) (v:=.int .i64 y0) (by simp);have h1:=hk4.cell (p:=⟨wr.heap.size,1,none⟩) (v:=.slice ja jm jc) (by simp);clear hk4) | (go_at_call 229;(with_reducible refine (HP2.out _ HK4.out).mono ?_);rintro e w5 ⟨rfl,hk5⟩));go_roundg (n - (j+1))
        case measure=>omega
        case rel=>exact ⟨j+1,false,rfl,by go_num,by omega,Nat.le_refl _,HST,ae (HKJ.out.trans (HK4.out.trans hk5))⟩
       | true =>
        by_cases hji:j<i
        ·have hji':(j:Int)<(i:Int):=by omega
         have HST:Hid (false=fS L i (j+1)):=ae (by rw [hst];simp [hji]);clear hst hij hji;go_wp2_with (first | (with_reducible refine wpList_load_mid rfl 131 _ rfl b (j*2) rfl _ _ HRGJ.out Tryz.underlying131 rfl (by kernel_rfl) ?_) | (go_at_call 229;(with_reducible refine (HP1.out _ ((af.refl wr).alloc _)).mono ?_);rintro e w4 ⟨rfl,hk4⟩;have HK4:=ae (((af.refl wr).alloc _).trans hk4);have g0:=hk4.cell d0';have g1:=hk4.cell d1';have h0:=hk4.cell (p:=⟨wr.heap.size,0,none⟩) (v:=.int .i64 y0) (by simp);have h1:=hk4.cell (p:=⟨wr.heap.size,1,none⟩) (v:=.slice ja jm jc) (by simp);clear hk4) | (go_at_call 229;(with_reducible refine (HP2.out _ HK4.out).mono ?_);rintro e w5 ⟨rfl,hk5⟩));go_roundg (n - (j+1))
         case measure=>omega
         case rel=>exact ⟨j+1,false,rfl,by go_num,by omega,Nat.le_refl _,HST,ae (HKJ.out.trans (HK4.out.trans hk5))⟩
        ·have hji':¬ (j:Int)<(i:Int):=by omega
         have HST:Hid (bb=fS L i (j+1)):=ae (by rw [hst];simp [hji]);clear hst hij hji;go_wp2_with (first | (with_reducible refine wpList_load_mid rfl 131 _ rfl b (j*2) rfl _ _ HRGJ.out Tryz.underlying131 rfl (by kernel_rfl) ?_) | (go_at_call 229;(with_reducible refine (HP1.out _ ((af.refl wr).alloc _)).mono ?_);rintro e w4 ⟨rfl,hk4⟩;have HK4:=ae (((af.refl wr).alloc _).trans hk4);have g0:=hk4.cell d0';have g1:=hk4.cell d1';have h0:=hk4.cell (p:=⟨wr.heap.size,0,none⟩) (v:=.int .i64 y0) (by simp);have h1:=hk4.cell (p:=⟨wr.heap.size,1,none⟩) (v:=.slice ja jm jc) (by simp);clear hk4) | (go_at_call 229;(with_reducible refine (HP2.out _ HK4.out).mono ?_);rintro e w5 ⟨rfl,hk5⟩));go_roundg (n - (j+1))
         case measure=>omega
         case rel=>exact ⟨j+1,bb,rfl,by go_num,by omega,Nat.le_refl _,HST,ae (HKJ.out.trans (HK4.out.trans hk5))⟩
    ·have hjn:¬ (j:Int)<(n:Int):=by omega
     have hsucc:=mw L i
     have hkb:jK L i=bb:=by
      rw [HB.out,show j=n by omega,HN.out];rfl
     rw [hkb,HGI.out] at hsucc;clear hkb;cases bb with
     | false =>
      have HF:Hid (aw Z wr w.heap.size (.slice oa on oc) (cJ L (i+1))):=ae (by rw [hsucc];simpa using HO.out.kept (HK5.out.trans HKJ.out));clear hsucc;go_wp2;go_roundg (n - (i+1))
      case measure=>omega
      case rel=>exact ⟨i+1,_,rfl,by go_num,by omega,Nat.le_refl _,HF,ae (HK.out.trans (HK5.out.trans HKJ.out))⟩
     | true =>
      have hlen:=oA L i;have HSU:=ae hsucc;have hszj:=(HK5.out.trans HKJ.out).size;clear hsucc;go_wp2_with (at_builtin;refine nO rfl _ _ rfl w.heap.size _ (cJ L i) rfl (HO.out.kept ((HK5.out.trans HKJ.out).alloc _)) wr.heap.size x (.slice ia im ic) rfl (fM (by rw [<-HX0.out];simp) (by simp)) (HND.out.kept ((HK5.out.trans HKJ.out).alloc _)) HRL.out (by omega) (by simp;omega) ?_;intro v7 w7 hown7 hb7;have O7:=ae hown7;have HB7:=ae hb7;clear hown7 hb7);go_roundg (n - (i+1))
      case measure=>omega
      case rel=>exact ⟨i+1,_,rfl,by go_num,by omega,Nat.le_refl _,ae (by rw [HSU.out];exact O7.out),ae (((HK.out.trans (HK5.out.trans HKJ.out)).alloc _).app HB7.out)⟩
  ·have hin:¬ (i:Int)<(n:Int):=by omega
   have HF:Hid (aw Z wo w.heap.size (.slice oa on oc) (ke L)):=ae (by have h:=HO.out;rw [show i=n by omega,HN.out] at h;exact h);go_wp2;go_ret;exact ⟨⟨_,rfl,HF.out⟩,HK.out⟩
end
theorem uQ (vars top:Int) (v:Value) (xs:List Nd) (i:Nat) (w:World) (hv:aQ w v xs) (hi:i<xs.length) (h0:0<=vars) (h24:vars<=24) (hi9:i<=1000) :
  Calls Tryz.prog 60 #[.agg #[.int .i64 vars,v,.int .i64 top],.int .i64 i] w fun e w'=>e=.returned (.int .i64 (dH (vars+i) xs[i]))/\af w w':=by
 obtain ⟨a,c,rfl,_,hl,hx⟩:=hv;obtain ⟨b,o,rfl,u,hc1,hc2,hc3,hI⟩:=hx i hi;obtain ⟨nl,hnl⟩:∃ nl,nl=xs.length:=⟨_,rfl⟩;obtain ⟨x,hxx⟩:∃ x,x=xs[i]:=⟨_,rfl⟩;rw [<-hxx] at hc1 hc2 hI⊢;rw [<-hnl] at hi hl⊢;obtain ⟨kind,k,args⟩:=x;obtain ⟨aa,ca,rfl,_,hla,hca⟩:=hI;simp only at hc1 hc2 hc3;obtain ⟨n,hn⟩:∃ n,n=args.length:=⟨_,rfl⟩;simp only at hca hla;rw [<-hn] at hc3 hla;have HC:=ae hca;have HN:=ae hn;have hlt:(i:Int)<(nl:Int):=by omega
 have HR:=ae (fun w' (hk:af w w')=>dW (hk.cell hc1) (hk.cell hc2) (hk.cell hc3));have hsum:vars+(i:Int)<=1024/\0<=vars+(i:Int):=by omega
 clear hx hxx hca hnl hn hc1 hc2 hc3;unfold dH;simp only;by_cases hk:kind<0\/5<kind
 ·rw [if_pos hk];have e0:(kind == 0)=false:=by simp;omega
  have e1:(kind == 1)=false:=by simp;omega
  have e2:(kind == 2)=false:=by simp;omega
  have e3:(kind == 3)=false:=by simp;omega
  have e4:(kind == 4)=false:=by simp;omega
  have e5:(kind == 5)=false:=by simp;omega
  clear hk;go_enter Tryz.func60,Tryz.ntmps60;go_wp2_with (refine wpList_load_mid rfl 106 _ rfl b (o+i*3) rfl _ _ (HR.out _ ((af.refl _).alloc _)) Tryz.underlying106 rfl (by kernel_rfl) ?_);go_ret;exact ⟨rfl,((af.refl _).alloc _).alloc _⟩
 ·rw [if_neg hk];have hn2:args.length=n:=HN.out.symm;rw [hn2];clear hn2;cases hao:dT kind n with
  | false =>
   rw [if_pos rfl]
   have hcs:(kind=0/\0<n)\/(kind=1/\n<1)\/(kind=1/\1<n)\/((kind=2\/kind=3\/kind=4\/kind=5)/\n<1)\/((kind=2\/kind=3\/kind=4\/kind=5)/\16<n):=by
    unfold dT at hao;split at hao
    ·simp at hao;omega
    ·split at hao
     ·simp at hao;omega
     ·simp at hao;omega
   clear hao hk;rcases hcs with ⟨rfl,h⟩ | ⟨rfl,h⟩ | ⟨rfl,h⟩ | ⟨(rfl | rfl | rfl | rfl),h⟩ | ⟨(rfl | rfl | rfl | rfl),h⟩
   ·have h':(0:Int)<(n:Int):=by omega
    clear h;go_enter Tryz.func60,Tryz.ntmps60;go_wp2_with (refine wpList_load_mid rfl 106 _ rfl b (o+i*3) rfl _ _ (HR.out _ ((af.refl _).alloc _)) Tryz.underlying106 rfl (by kernel_rfl) ?_);go_ret;exact ⟨rfl,((af.refl _).alloc _).alloc _⟩
   ·have h':(n:Int)<1:=by omega
    clear h;go_enter Tryz.func60,Tryz.ntmps60;go_wp2_with (refine wpList_load_mid rfl 106 _ rfl b (o+i*3) rfl _ _ (HR.out _ ((af.refl _).alloc _)) Tryz.underlying106 rfl (by kernel_rfl) ?_);go_ret;exact ⟨rfl,((af.refl _).alloc _).alloc _⟩
   ·have h':(1:Int)<(n:Int):=by omega
    clear h;go_enter Tryz.func60,Tryz.ntmps60;go_wp2_with (refine wpList_load_mid rfl 106 _ rfl b (o+i*3) rfl _ _ (HR.out _ ((af.refl _).alloc _)) Tryz.underlying106 rfl (by kernel_rfl) ?_);go_ret;exact ⟨rfl,((af.refl _).alloc _).alloc _⟩
   ·have h':(n:Int)<1:=by omega
    clear h;go_enter Tryz.func60,Tryz.ntmps60;go_wp2_with (refine wpList_load_mid rfl 106 _ rfl b (o+i*3) rfl _ _ (HR.out _ ((af.refl _).alloc _)) Tryz.underlying106 rfl (by kernel_rfl) ?_);go_ret;exact ⟨rfl,((af.refl _).alloc _).alloc _⟩
   ·have h':(n:Int)<1:=by omega
    clear h;go_enter Tryz.func60,Tryz.ntmps60;go_wp2_with (refine wpList_load_mid rfl 106 _ rfl b (o+i*3) rfl _ _ (HR.out _ ((af.refl _).alloc _)) Tryz.underlying106 rfl (by kernel_rfl) ?_);go_ret;exact ⟨rfl,((af.refl _).alloc _).alloc _⟩
   ·have h':(n:Int)<1:=by omega
    clear h;go_enter Tryz.func60,Tryz.ntmps60;go_wp2_with (refine wpList_load_mid rfl 106 _ rfl b (o+i*3) rfl _ _ (HR.out _ ((af.refl _).alloc _)) Tryz.underlying106 rfl (by kernel_rfl) ?_);go_ret;exact ⟨rfl,((af.refl _).alloc _).alloc _⟩
   ·have h':(n:Int)<1:=by omega
    clear h;go_enter Tryz.func60,Tryz.ntmps60;go_wp2_with (refine wpList_load_mid rfl 106 _ rfl b (o+i*3) rfl _ _ (HR.out _ ((af.refl _).alloc _)) Tryz.underlying106 rfl (by kernel_rfl) ?_);go_ret;exact ⟨rfl,((af.refl _).alloc _).alloc _⟩
   all_goals
    have h':(16:Int)<(n:Int):=by omega
    clear h;go_enter Tryz.func60,Tryz.ntmps60;go_wp2_with (refine wpList_load_mid rfl 106 _ rfl b (o+i*3) rfl _ _ (HR.out _ ((af.refl _).alloc _)) Tryz.underlying106 rfl (by kernel_rfl) ?_);go_ret;exact ⟨rfl,((af.refl _).alloc _).alloc _⟩
  | true =>
   rw [if_neg (by simp)]
   have hcs:(kind=0\/kind=1\/kind=2\/kind=3\/kind=4\/kind=5)/\(kind=0->(n:Int)<=0)/\(kind≠0->(1:Int)<=(n:Int))/\(kind=1->(n:Int)<=1)/\(n:Int)<=16:=by
    unfold dT at hao;split at hao
    ·simp at hao;omega
    ·split at hao
     ·simp at hao;omega
     ·simp at hao;omega
   obtain ⟨r,hr⟩:∃ r,r=(if args.all (fun a=>decide (0<=a/\a<vars+(i:Int)))=false then 10 else gi kind k n):=⟨_,rfl⟩;rw [<-hr];have HRR:=ae hr;clear hr hao hk;obtain ⟨hcs,q0,q1,q2,q3⟩:=hcs;rcases hcs with rfl | rfl | rfl | rfl | rfl | rfl
   ·have q0':=q0 rfl;clear q0 q1 q2;go_enter Tryz.func60,Tryz.ntmps60;go_wp2_with (refine wpList_load_mid rfl 106 _ rfl b (o+i*3) rfl _ _ (HR.out _ ((af.refl _).alloc _)) Tryz.underlying106 rfl (by kernel_rfl) ?_);go_loop [9,41] (fun _ j=>∃ q:Nat,q<=n/\j=.int .i64 q/\Hid (∀ x∈args.take q,0<=x/\x<vars+(i:Int))) (fun _ j=>n - (intOf j).toNat)
    case atStart=>exact ⟨0,Nat.zero_le _,rfl,ae (by simp)⟩
    case round =>
     obtain ⟨q,hq,rfl,HF⟩:=hrel;have hqn:¬ q<n:=by omega
     have hall:=HRR.out
     rw [if_neg (by
      have hh:=HF.out;rw [List.take_of_length_le (by have:=HN.out;omega)] at hh;rw [Bool.not_eq_false,List.all_eq_true];intro z hz;exact decide_eq_true (hh z hz))] at hall
     unfold gi at hall;by_cases k0:k=0
     ·subst k0;simp at hall;subst hall;go_wp2;go_ret;exact ⟨rfl,((af.refl _).alloc _).alloc _⟩
     ·have b0:(k == 0)=false:=by simpa using k0
      have b2:(k != 0)=true:=by simpa using k0
      by_cases k1:k=1
      ·subst k1;simp at hall;try rw [if_pos (by omega)] at hall
       subst hall;clear b0 b2 k0;go_wp2;go_ret;exact ⟨rfl,((af.refl _).alloc _).alloc _⟩
      ·have b1:(k == 1)=false:=by simpa using k1
       have b3:(k != 1)=true:=by simpa using k1
       simp [k0,k1] at hall;subst hall;clear k0 k1;go_wp2;go_ret;exact ⟨rfl,((af.refl _).alloc _).alloc _⟩
   all_goals
    have q0':=ae q0;simp at q0 q1 q2;go_enter Tryz.func60,Tryz.ntmps60;go_wp2_with (refine wpList_load_mid rfl 106 _ rfl b (o+i*3) rfl _ _ (HR.out _ ((af.refl _).alloc _)) Tryz.underlying106 rfl (by kernel_rfl) ?_);go_loop [9,41] (fun _ j=>∃ q:Nat,q<=n/\j=.int .i64 q/\Hid (∀ x∈args.take q,0<=x/\x<vars+(i:Int))) (fun _ j=>n - (intOf j).toNat)
    case atStart=>exact ⟨0,Nat.zero_le _,rfl,ae (by simp)⟩
    case round =>
     obtain ⟨q,hq,rfl,HF⟩:=hrel;by_cases hqn:q<n
     ·have hqx:q<args.length:=by have:=HN.out;omega
      obtain ⟨b2,o2,rfl,hc0⟩:=HC.out q hqx;have hcell:=fun X Y=>(((af.refl w).alloc X).alloc Y).cell hc0
      obtain ⟨y,hy⟩:∃ y,y=args[q]:=⟨_,rfl⟩;rw [<-hy] at hcell;have HY:=ae hy;have hcell2:=hcell (.cells #[.int .i64 vars,.slice (some ⟨b,o,none⟩) nl c,.int .i64 top] 41);have hcell3:=fun kk=>hcell2 (.cells #[.int .i64 kk,.int .i64 k,.slice (some ⟨b2,o2,none⟩) n ca] 106)
      have g0:=hcell3 0;have g1:=hcell3 1;have g2:=hcell3 2;have g3:=hcell3 3;have g4:=hcell3 4;have g5:=hcell3 5;clear hc0 hy hcell hcell2 hcell3;by_cases hy0:y<0
      ·go_wp2;go_ret;refine ⟨?_,((af.refl _).alloc _).alloc _⟩;rw [HRR.out,if_pos]
       ·rfl
       ·rw [List.all_eq_false];exact ⟨y,by rw [HY.out];exact List.getElem_mem _,by simp;omega⟩
      ·by_cases hy1:y<vars+(i:Int)
       ·go_wp2;go_round
        case rel =>
         refine ⟨q+1,by omega,by go_num,ae ?_⟩;intro z hz;rw [List.take_succ_eq_append_getElem hqx] at hz;rcases List.mem_append.1 hz with hz | hz
         ·exact HF.out z hz
         ·simp at hz;rw [hz,<-HY.out];omega
        case measure=>simp [intOf];omega
       ·go_wp2;go_ret;refine ⟨?_,((af.refl _).alloc _).alloc _⟩;rw [HRR.out,if_pos]
        ·rfl
        ·rw [List.all_eq_false];exact ⟨y,by rw [HY.out];exact List.getElem_mem _,by simp;omega⟩
     ·have hall:=HRR.out
      rw [if_neg (by
       have hh:=HF.out;rw [List.take_of_length_le (by have:=HN.out;omega)] at hh;rw [Bool.not_eq_false,List.all_eq_true];intro z hz;exact decide_eq_true (hh z hz))] at hall
      unfold gi at hall;by_cases k0:k=0
      ·subst k0;simp at hall;subst hall;go_wp2;go_ret;exact ⟨rfl,((af.refl _).alloc _).alloc _⟩
      ·have b0:(k == 0)=false:=by simpa using k0
       have b2:(k != 0)=true:=by simpa using k0
       by_cases k1:k=1
       ·subst k1;simp at hall;try rw [if_pos (by omega)] at hall
        subst hall;clear b0 b2 k0;go_wp2;go_ret;exact ⟨rfl,((af.refl _).alloc _).alloc _⟩
       ·have b1:(k == 1)=false:=by simpa using k1
        have b3:(k != 1)=true:=by simpa using k1
        by_cases k2:1<=k
        ·by_cases k3:k<=(n:Int)
         ·simp [k0,k2,k3] at hall;subst hall;clear k0 k1;go_wp2;go_ret;exact ⟨rfl,((af.refl _).alloc _).alloc _⟩
         ·simp [k0,k2,k3] at hall;subst hall;clear k0 k1;go_wp2;go_ret;exact ⟨rfl,((af.refl _).alloc _).alloc _⟩
        ·simp [k0,k2] at hall;subst hall;clear k0 k1;go_wp2;go_ret;exact ⟨rfl,((af.refl _).alloc _).alloc _⟩
theorem qB (v:Value) (f:Fm) (w:World) (hv:aQ w v f.nodes) (h0:0<=f.vars) (h24:f.vars<=24) (arg:Int) (ht:arg<=9223372036854775807) :
  Calls Tryz.prog 61 #[jE v f,.int .i64 arg] w fun e w'=>e=.returned (.bool (iq f arg))/\af w w':=by
 obtain ⟨a,c,rfl,_,hl,hx⟩:=hv;obtain ⟨vars,nodes,top⟩:=f;simp only at hl hx h0 h24;unfold iq;simp only;clear hx;obtain ⟨n,hn⟩:∃ n,n=nodes.length:=⟨_,rfl⟩;rw [<-hn] at hl⊢;clear hn;by_cases h1:0<=arg
 ·by_cases h2:arg<vars
  ·rw [decide_eq_true ⟨h0,h1,.inl h2⟩];go_enter Tryz.func61,Tryz.ntmps61;go_wp2;go_ret;exact ⟨rfl,(af.refl _).alloc _⟩
  ·by_cases h3:arg - vars<n
   ·rw [decide_eq_true ⟨h0,h1,.inr h3⟩];go_enter Tryz.func61,Tryz.ntmps61;go_wp2;go_ret;exact ⟨rfl,(af.refl _).alloc _⟩
   ·rw [decide_eq_false (by rintro ⟨_,_,h | h⟩;exact h2 h;exact h3 h)];go_enter Tryz.func61,Tryz.ntmps61;go_wp2;go_ret;exact ⟨rfl,(af.refl _).alloc _⟩
 ·rw [decide_eq_false fun h=>h1 h.2.1];go_enter Tryz.func61,Tryz.ntmps61;go_wp2;go_ret;exact ⟨rfl,(af.refl _).alloc _⟩
theorem r_ (v:Value) (f:Fm) (w:World) (hv:aQ w v f.nodes) (ht:f.top<=9223372036854775807) :
  Calls Tryz.prog 21 #[jE v f] w fun e w'=>e=.returned (.int .i64 (du f))/\af w w':=by
 obtain ⟨r,hr⟩:∃ r,r=du f:=⟨_,rfl⟩;rw [<-hr];have HV:=ae hv;have HRR:=ae hr;obtain ⟨a,c,rfl,_,hl,hx⟩:=hv;obtain ⟨n,hn⟩:∃ n,n=f.nodes.length:=⟨_,rfl⟩;rw [<-hn] at hl HV⊢;have HN:=ae hn;obtain ⟨vars,hvars⟩:∃ x,x=f.vars:=⟨_,rfl⟩;obtain ⟨top,htop⟩:∃ x,x=f.top:=⟨_,rfl⟩;rw [<-htop] at ht;have HVA:=ae hvars;have HTO:=ae htop;unfold jE;rw [<-hvars,<-htop];clear hx hr hn hvars htop;by_cases h:vars<0\/24<vars
 ·have h9:r=3:=by rw [HRR.out,du,if_pos (by rw [<-HVA.out];exact h)]
  subst h9;rcases h with h | h
  all_goals
   go_enter Tryz.func21,Tryz.ntmps21;go_wp2;go_ret;exact ⟨rfl,(af.refl _).alloc _⟩
 ·have h0:0<=vars:=by omega
  have h24:vars<=24:=by omega
  have HH:=ae (show ¬ (f.vars<0\/24<f.vars) by rw [<-HVA.out];exact h);clear h;by_cases hn:128<n
  ·have h9:r=4:=by rw [HRR.out,du,if_neg HH.out,if_pos (by rw [<-HN.out];exact hn)]
   subst h9;go_enter Tryz.func21,Tryz.ntmps21;go_wp2;go_ret;exact ⟨rfl,(af.refl _).alloc _⟩
  ·have HH2:=ae (show ¬ 128<f.nodes.length by rw [<-HN.out];exact hn);go_enter Tryz.func21,Tryz.ntmps21;go_wp2;go_loopw [3,4,20] (fun _ _ i wr=>∃ k:Nat,k<=n/\i=.int .i64 k/\Hid (∀ j (hj:j<f.nodes.length),j<k->dH (f.vars+j) f.nodes[j]=0)/\af w wr/\wr.cell? ⟨w.heap.size,0,none⟩=some (.int .i64 vars)/\wr.cell? ⟨w.heap.size,1,none⟩=some (.slice a n c)/\wr.cell? ⟨w.heap.size,2,none⟩=some (.int .i64 top)) (fun _ _ i _=>n - (intOf i).toNat)
   case atStart=>exact ⟨0,Nat.zero_le _,rfl,ae (by intro j _ h;omega),(af.refl _).alloc _,by simp,by simp,by simp⟩
   case round =>
    obtain ⟨k,hk,rfl,HF,hK,c0,c1,c2⟩:=hrel
    have hload:wr.rangeAt w.heap.size 0 [.int .i64 vars,.slice a n c,.int .i64 top]:=by
     intro j v hj
     match j,hj with
     | 0,hj=>simp at hj;subst hj;exact c0
     | 1,hj=>simp at hj;subst hj;exact c1
     | 2,hj=>simp at hj;subst hj;exact c2
    have HLD:=ae hload;clear hload;by_cases hlt:k<n
    ·have hkx:k<f.nodes.length:=by have:=HN.out;omega
     have hcall:=uQ f.vars f.top _ f.nodes k wr (HV.out.kept hK) hkx (by rw [<-HVA.out];exact h0) (by rw [<-HVA.out];exact h24) (by omega);rw [<-HVA.out,<-HTO.out] at hcall;obtain ⟨q,hq⟩:∃ q,q=dH (vars+k) f.nodes[k]:=⟨_,rfl⟩;rw [<-hq] at hcall;have HQ:=ae hq;have HCL:=ae hcall;clear hq hcall;by_cases hq0:q=0
     ·subst hq0
      go_wp2_with (first
       | (with_reducible refine wpList_load_mid rfl 41 _ rfl w.heap.size 0 rfl _ _ HLD.out Tryz.underlying41 rfl (by kernel_rfl) ?_)
       | (go_at_call 60;refine HCL.out.mono ?_;rintro e w2 ⟨rfl,hk2⟩))
      go_roundw
      case rel =>
       refine ⟨k+1,by omega,by go_num,ae ?_,hK.trans hk2,hk2.cell c0,hk2.cell c1,hk2.cell c2⟩;intro j hj hjk;by_cases e:j=k
       ·subst e;rw [<-HVA.out,<-HQ.out]
       ·exact HF.out j hj (by omega)
      case measure=>simp [intOf];omega
     ·have hq1:((q:Int) == 0)=false:=by simp;omega
      have hq2:((q:Int) != 0)=true:=by simp;omega
      have HQ0:=ae hq0;clear hq0
      go_wp2_with (first
       | (with_reducible refine wpList_load_mid rfl 41 _ rfl w.heap.size 0 rfl _ _ HLD.out Tryz.underlying41 rfl (by kernel_rfl) ?_)
       | (go_at_call 60;refine HCL.out.mono ?_;rintro e w2 ⟨rfl,hk2⟩))
      go_ret;refine ⟨?_,hK.trans hk2⟩;have e1:=lg f.vars f.nodes k hkx (fun j hj=>HF.out j (by omega) hj) (by rw [<-HVA.out,<-HQ.out];exact HQ0.out)
      have e2:r=q:=by
       rw [HRR.out,du,if_neg HH.out,if_neg HH2.out];rw [<-HVA.out,<-HQ.out] at e1;rw [<-HVA.out,e1,if_neg HQ0.out]
      rw [e2];rfl
    ·have hall:=iZ f.vars f.nodes (fun j hj=>HF.out j hj (by have:=HN.out;omega));have hrr:r=if iq f f.top then 0 else 10:=by rw [HRR.out,du,if_neg HH.out,if_neg HH2.out,if_pos hall]
     have hcall:=qB _ f wr (HV.out.kept hK) (by rw [<-HVA.out];exact h0) (by rw [<-HVA.out];exact h24) f.top (by rw [<-HTO.out];exact ht);unfold jE at hcall;rw [<-HTO.out,<-HVA.out] at hcall;have HCL:=ae hcall;have HRF:=ae hrr;clear hcall hrr hall;cases hok:iq f top with
     | true =>
      have HOK:=ae hok;clear hok
      go_wp2_with (first
       | (with_reducible refine wpList_load_mid rfl 41 _ rfl w.heap.size 0 rfl _ _ HLD.out Tryz.underlying41 rfl (by kernel_rfl) ?_)
       | (go_at_call 61;refine HCL.out.mono ?_;rintro e w2 ⟨rfl,hk2⟩;rw [HOK.out]))
      go_ret;exact ⟨by rw [HRF.out,<-HTO.out,HOK.out];rfl,hK.trans hk2⟩
     | false =>
      have HOK:=ae hok;clear hok
      go_wp2_with (first
       | (with_reducible refine wpList_load_mid rfl 41 _ rfl w.heap.size 0 rfl _ _ HLD.out Tryz.underlying41 rfl (by kernel_rfl) ?_)
       | (go_at_call 61;refine HCL.out.mono ?_;rintro e w2 ⟨rfl,hk2⟩;rw [HOK.out]))
      go_ret;exact ⟨by rw [HRF.out,<-HTO.out,HOK.out];rfl,hK.trans hk2⟩
def Bi (w':World) (e:Ending) (r:Option (List Nat)):Prop :=
 match r with
 | some l=>∃ v,e=.returned (.tuple #[v,.int .i64 0])/\dm w' 0 v l
 | none=>e=.returned (.tuple #[.slice none 0 0,.int .i64 4])
theorem eK (a b:List Int):dR (a++b)=(dR a&&dR b):=by unfold dR;exact List.all_append
theorem kA (V:Nat) (mark:List Bool) (nodes:List Nd) (m:Nat) (h:dR (aV V mark nodes m)=false):∀ k,m<=k->dR (aV V mark nodes k)=false:=by
 intro k hk;induction k with
 | zero =>
      have:m=0:=by omega
      subst this;exact h
 | succ k ih =>
  by_cases e:m=k+1
  ·subst e;exact h
  ·unfold aV;have:=ih (by omega);split
   ·rw [eK,this];rfl
   ·exact this
theorem nJ (v:Value) (f:Fm) (V T:Nat) (w:World) (hv:aQ w v f.nodes) (hok:Ok f V T) :
  Calls Tryz.prog 165 #[.agg #[.int .i64 V,v,.int .i64 T]] w fun e w'=>e=.returned (.int .i64 (if gG V T f=true then 0 else 7))/\af w w':=by
 have h2:∀ W,af w W->Calls Tryz.prog 109 #[.agg #[.int .i64 V,v,.int .i64 T]] W fun e w'=>∃ g,e=.returned (.slice (some ⟨g,0,none⟩) (V+f.nodes.length) (V+f.nodes.length))/\W.heap.size<=g/\ai w' g 4 ((bS V T f.nodes).map .bool)/\af W w':=fun W hk=>oz v f V T W (hv.kept hk) hok
 obtain ⟨r,hr⟩:∃ r:Int,r=(if gG V T f=true then 0 else 7):=⟨_,rfl⟩;rw [<-hr];unfold gG at hr;obtain ⟨mark,hmark⟩:∃ m,m=bS V T f.nodes:=⟨_,rfl⟩;have hml:mark.length=V+f.nodes.length:=by rw [hmark,lB]
 rw [<-hmark] at hr h2;obtain ⟨a,c,rfl,_,hl,hx⟩:=hv;obtain ⟨n,hn⟩:∃ n,n=f.nodes.length:=⟨_,rfl⟩;rw [<-hn] at h2 hml hr⊢;have hn9:n<=128:=by rw [hn];exact hok.n128
 have hV9:=hok.v24;have hT9:T<V+n:=by rw [hn];exact hok.tlt
 have H2:=ae h2;have HX:=ae hx;have HN:=ae hn;have HR:=ae hr;have HML:=ae hml;clear h2 hx hn hok hr hml hl hmark;go_enter Tryz.func165,Tryz.ntmps165;go_wp2_with (go_at_call 109;refine (H2.out _ ((af.refl _).alloc _)).mono ?_;rintro e w2 ⟨gn,rfl,hgn,hrn,hk2⟩;have d0:=hk2.cell (p:=⟨w.heap.size,0,none⟩) (v:=.int .i64 V) (by simp);have d1:=hk2.cell (p:=⟨w.heap.size,1,none⟩) (v:=.slice a n c) (by simp);have HRN:=ae hrn;clear hrn);have HK2:=ae hk2;clear d0 d1 hk2;go_loopw [4,5,11] (fun _ _ i wr=>∃ k:Nat,k<=n/\i=.int .i64 k/\Hid (dR (aV V mark f.nodes k)=true)/\af w2 wr) (fun _ _ i _=>n - (intOf i).toNat)
 case atStart=>exact ⟨0,Nat.zero_le _,rfl,ae rfl,af.refl _⟩
 case round =>
  obtain ⟨k,hk,rfl,HM,hK⟩:=hrel;have hkW:=HK2.out.trans hK;have q0:=hkW.cell (p:=⟨w.heap.size,0,none⟩) (v:=.int .i64 V) (by simp);have q1:=hkW.cell (p:=⟨w.heap.size,1,none⟩) (v:=.slice a n c) (by simp);by_cases hlt:k<n
  ·have hkx:k<f.nodes.length:=by have:=HN.out;omega
   have hmc:=(HRN.out.kept hK).cell (i:=V+k) (by simp [HML.out];omega);rw [cK mark (V+k) (by rw [HML.out];omega)] at hmc;obtain ⟨b,o,rfl,u,hc1,hc2,hc3,hI⟩:=HX.out k hkx;have hkA:af w wr:=((af.refl w).alloc (.cells #[.int .i64 V,.slice (some ⟨b,o,none⟩) n c,.int .i64 T] 41)).trans hkW;have hrange:=dW (hkA.cell hc1) (hkA.cell hc2) (hkA.cell hc3);obtain ⟨ax,cx,rfl,_,hlx,hcx⟩:=hI
   have hstep:aV V mark f.nodes (k+1)=if mark.getD (V+k) false then aV V mark f.nodes k++[f.nodes[k].kind] else aV V mark f.nodes k:=by
    show (if mark.getD (V+k) false then aV V mark f.nodes k++[(f.nodes.getD k bZ).kind] else aV V mark f.nodes k)=_;rw [show f.nodes.getD k bZ=f.nodes[k] by simp [List.getD_eq_getElem?_getD,hkx]]
   obtain ⟨kd,hkd⟩:∃ x,x=f.nodes[k].kind:=⟨_,rfl⟩;obtain ⟨kk,hkk⟩:∃ x,x=f.nodes[k].k:=⟨_,rfl⟩;obtain ⟨na,hna⟩:∃ x,x=f.nodes[k].args.length:=⟨_,rfl⟩;rw [<-hkd,<-hkk,<-hna] at hrange;rw [<-hkd] at hstep;have HRG:=ae hrange;have HST:=ae hstep;have HKA:=ae hkA;have HK:=ae hK;have hi1:(V:Int)+(k:Int)<(V:Int)+(n:Int):=by omega
   have hi2:(V:Int)+(k:Int)<((V+n:Nat):Int):=by omega
   have hgl:gn<wr.heap.size:=Nat.lt_of_lt_of_le HRN.out.lt hK.size;have hlw:w.heap.size<wr.heap.size:=by have:=hkW.size;simp at this;omega
   clear hc1 hc2 hc3 hrange hcx hlx hna hkA hK hkW hstep hkd hkk;cases hmk:mark.getD (V+k) false with
   | false =>
    rw [hmk] at hmc;have HMK:=ae hmk;clear hmk;go_wp2_with (with_reducible refine wpList_load_mid rfl 106 _ rfl b (o+k*3) rfl _ _ HRG.out Tryz.underlying106 rfl (by kernel_rfl) ?_);go_roundw
    case rel=>exact ⟨k+1,by omega,by go_num,ae (by rw [HST.out,HMK.out];exact HM.out),HK.out.alloc _⟩
    case measure=>simp [intOf];omega
   | true =>
    rw [hmk] at hmc;have HMK:=ae hmk;clear hmk;by_cases k1:kd=1
    ·subst k1;go_wp2_with (with_reducible refine wpList_load_mid rfl 106 _ rfl b (o+k*3) rfl _ _ HRG.out Tryz.underlying106 rfl (by kernel_rfl) ?_);go_ret
     have hr7:r=7:=by
      rw [HR.out,if_neg];rw [kA V mark f.nodes (k+1) (by rw [HST.out,HMK.out,if_pos rfl,eK];simp [dR]) n (by omega)];simp
     exact ⟨by rw [hr7];rfl,HKA.out.alloc _⟩
    ·have e1:(kd == 1)=false:=by simpa using k1
     by_cases k5:kd=5
     ·subst k5;clear e1 k1;go_wp2_with (with_reducible refine wpList_load_mid rfl 106 _ rfl b (o+k*3) rfl _ _ HRG.out Tryz.underlying106 rfl (by kernel_rfl) ?_);go_ret
      have hr7:r=7:=by
       rw [HR.out,if_neg];rw [kA V mark f.nodes (k+1) (by rw [HST.out,HMK.out,if_pos rfl,eK];simp [dR]) n (by omega)];simp
      exact ⟨by rw [hr7];rfl,HKA.out.alloc _⟩
     ·have e5:(kd == 5)=false:=by simpa using k5
      have E1:=ae k1;have E5:=ae k5;clear k1 k5;go_wp2_with (with_reducible refine wpList_load_mid rfl 106 _ rfl b (o+k*3) rfl _ _ HRG.out Tryz.underlying106 rfl (by kernel_rfl) ?_);go_roundw
      case rel=>exact ⟨k+1,by omega,by go_num,ae (by rw [HST.out,HMK.out,if_pos rfl,eK,HM.out];simp [dR,E1.out,E5.out]),HK.out.alloc _⟩
      case measure=>simp [intOf];omega
  ·have e:k=n:=by omega
   have hr0:r=0:=by rw [HR.out,<-e,if_pos HM.out]
   have HKA:=ae (((af.refl w).alloc _).trans hkW);have HR0:=ae hr0;clear hr0 e hkW;go_wp2;go_ret;exact ⟨by rw [HR0.out];rfl,HKA.out⟩
section
open Go.RowKit
variable {Z:Option Nat}
theorem uG {w w':World} {B:Nat} {e:TypeId} {size:Nat} {v:Value} {n:Nat} {xs:List Value} {ob:Option Nat} (h:w.ownsRow B e size v n xs) (hg:w.grownBy w' ob) (hne:∀ g,v.ownBlock=some g->some g≠ob):w'.ownsRow B e size v n xs:=by
 have hlt:=fun g hg=>(h.lt g hg).2
 obtain ⟨h1,h2⟩:=h;refine ⟨h1,h2.imp id ?_⟩;rintro ⟨g,cap,cur,rfl,h5,h6,h7⟩;exact ⟨g,cap,cur,rfl,h5,(hg.block g (hlt g rfl) (hne g rfl)).trans h6,h7⟩
theorem aw.stepped {W w7:World} {B B' g:Nat} {v s:Value} {L:List Nat} {xs:List Int} (h:aw s.ownBlock W B v L) (hs:OwnInts W B' s xs) (hg:W.grownBy w7 s.ownBlock) (hat:s.ownBlock=some g\/g=W.heap.size):aw (some g) w7 B v L:=by
 obtain ⟨cells,h1,h2,h3⟩:=h;refine ⟨cells,js h1 hs.1 (by decide) (fun k hk hne=>hg.block k hk hne),h2,fun i hi=>?_⟩;obtain ⟨u,e0,e1,⟨e2,e4⟩,e3⟩:=h3 i hi;refine ⟨u,e0,e1,⟨uG e2 hg fun g2 hg2 he=>e3 g2 hg2 he.symm,e4⟩,fun g2 hg2 he=>?_⟩;have hlt:=(e2.lt g2 hg2).2;injection he with he
 subst he;rcases hat with hat | hat
 ·exact e3 _ hg2 hat
 ·omega
theorem qS {ops:Array Oper} {rest:List Oper} {o:Oper} {a:Act} {Q:Exit->Act->World->Prop} {w:World} (hgd:o.guard=none) (s x:Operand)
  (ho:o.op=.call { callee:=.builtin .append,args:=#[s,x],argTypes:=#[22,22] }) (B:Nat) (v:Value) (xs:List Int) (hs:a.eval s=v) (hown:OwnInts w B v xs)
  (ad:Addr) (y:Int) (hx:a.eval x=.slice (some ad) 1 1) (hc:w.cell? ad=some (.int .i64 y)) (hl:xs.length<17592186044416) (hB:B<=w.heap.size)
  (h:∀ g cap w',OwnInts w' B (.slice (some ⟨g,0,none⟩) (xs.length+1) cap) (xs++[y])->w.grownBy w' v.ownBlock->(v.ownBlock=some g\/g=w.heap.size)->Below B w w'->wpList Tryz.prog ops Q rest (a.put o.dst (.slice (some ⟨g,0,none⟩) (xs.length+1) cap)) w'):wpList Tryz.prog ops Q (o :: rest) a w:=by
 obtain ⟨i0,hi0,hz0,hz1,hz2⟩:=info_parts gx;refine wpList_append_lies w hgd s x 22 ho B 3 i0 _ 1 8 Tryz.underlying22 hi0 hz0 hz1 hz2 rfl (by decide) v xs.length _ hs hown.1 ad 1 1 [.int .i64 y] hx rfl ?_ ?_ (by decide) (by simp [maxLen];omega) (by omega) hB w.heap.size rfl ?_
 ·intro j u hj
  match j,hj with
  | 0,hj=>simp at hj;subst hj;simpa [Addr.add] using hc
 ·intro u hu;simp at hu;subst hu;rfl
 ·intro g cap w' h2 h3 h4 _;exact h g cap w' ⟨by simpa using h2,by simp;omega⟩ h3 h4 (aW h3 hown.1 hB)
theorem qT {kind:Int} {n:Nat} (h:dT kind n=true) (h0:kind≠0):1<=n:=by
 unfold dT at h;rw [if_neg h0] at h;split at h
 ·simp at h;omega
 ·simp at h;omega
def vq (w':World) (e:Ending) (r:Option (List Nat × List Nat)):Prop :=
 match r with
 | some p=>∃ Z v1 v2 L,e=.returned (.tuple #[v1,v2,.int .i64 0])/\aw Z w' 0 v1 L/\L.Perm p.1/\OwnInts w' 0 v2 (aO p.2)
 | none=>e=.returned (.tuple #[.slice none 0 0,.slice none 0 0,.int .i64 4])
theorem kD (w:World):vq w (.returned (.tuple #[.slice none 0 0,.slice none 0 0,.int .i64 4])) none:=rfl
theorem vW:aZ 0=0:=rfl
theorem oi:ar 0=[]:=by
 unfold ar;rw [List.filter_eq_nil_iff];intro a _;simp
theorem tn (v:Value) (f:Fm) (V T:Nat) (w:World) (hv:aQ w v f.nodes) (hok:Ok f V T) (hs:gG V T f=true) :
  Calls Tryz.prog 106 #[.agg #[.int .i64 V,v,.int .i64 T]] w fun e w'=>vq w' e (kj V T f.nodes)/\af w w':=by
 have HTY:Hid (∀ W,af w W->Calls Tryz.prog 165 #[.agg #[.int .i64 V,v,.int .i64 T]] W fun e w'=>e=.returned (.int .i64 0)/\af W w'):=ae fun W hk=>by
  have:=nJ v f V T W (hv.kept hk) hok;rw [if_pos hs] at this;exact this
 have HNR:=ae (fun i (hi:i<f.nodes.length)=>ni hv i hi);have HOK:=ae hok;have HMO:=ae (fun i (hi:i<f.nodes.length) h=>jL hok hs i hi h);have hsh:∃ a n c,v=.slice a n c:=by obtain ⟨a,c,h,_⟩:=hv;exact ⟨a,_,c,h⟩
 obtain ⟨a,n,c,rfl⟩:=hsh;have h24:=hok.v24;have h128:=hok.n128;have htl:=hok.tlt;have hc0:aB 152 (cond V (T:Int)):=d_ (cG (V:=V) (m:=128) (by omega) h24) (by omega);have HST0:=ae (ep.start hok)
 have HW0:Hid (∀ W',Calls Tryz.prog 166 #[.agg #[.int .i64 V,.slice a n c,.int .i64 T],.agg #[.int .i64 0,.slice none 0 0],.int .i64 T] W' fun e w'=>(∃ u',e=.returned (.agg #[.int .i64 (aZ (cond V (T:Int))),u'])/\bK none w' u' (cond V (T:Int)))/\af W' w'):=ae fun W'=>by
  have:=mb (Z:=none) 0 V (.slice a n c) T ⟨_,_,_,rfl⟩ h24 (T:Int) (by omega) (.slice none 0 0) W' (fun z hz=>by cases hz) ⟨by rw [oi];exact OwnInts.nil _ _,fun g hg=>by cases hg⟩;rw [show aJ V 0 (T:Int)=cond V (T:Int) by unfold aJ;simp,vW] at this;exact this
 obtain ⟨c0,hc00⟩:∃ c0,c0=cond V (T:Int):=⟨_,rfl⟩;obtain ⟨nl,hnl⟩:∃ nl,nl=f.nodes.length:=⟨_,rfl⟩;rw [<-hc00] at hc0 HST0 HW0;rw [<-hnl] at HST0 h128;have HNL:=ae hnl;have HC0:=ae hc0;obtain ⟨x0,hx0⟩:∃ x,x=aZ c0:=⟨_,rfl⟩;have HX0:=ae hx0;rw [<-hx0] at HW0;clear hv hok hs hc0 hc00 hnl hx0 htl;go_enter Tryz.func106,Tryz.ntmps106
 go_wp2_with (first
  | (go_at_call 165;refine (HTY.out _ ((af.refl _).alloc _)).mono ?_;rintro e w1 ⟨rfl,hk1⟩;have d0:=hk1.cell (p:=⟨w.heap.size,0,none⟩) (v:=.int .i64 V) (by simp);have d1:=hk1.cell (p:=⟨w.heap.size,1,none⟩) (v:=.slice a n c) (by simp);have d2:=hk1.cell (p:=⟨w.heap.size,2,none⟩) (v:=.int .i64 T) (by simp);have HK1:=ae (((af.refl _).alloc _).trans hk1);clear hk1)
  | (go_at_call 166;refine (HW0.out _).mono ?_;rintro e w2 ⟨⟨u2,rfl,hu2⟩,hk2⟩;obtain ⟨ua2,uc2,rfl⟩:=hu2.shape;obtain ⟨un2,hun2⟩:∃ x,x=(ar c0).length:=⟨_,rfl⟩;rw [<-hun2] at hu2;rw [<-hun2];have HU2:=ae hu2;have d0':=hk2.cell d0;have d1':=hk2.cell d1;have d2':=hk2.cell d2;have HK2:=ae (HK1.out.trans hk2);clear d0 d1 d2 hk2 HK1 hu2 hun2))
 have hsz2:w.heap.size<w2.heap.size:=by
  by_cases h:w.heap.size<w2.heap.size
  ·exact h
  ·simp [World.cell?,Array.getElem?_eq_none (Nat.le_of_not_lt h)] at d0'
 obtain ⟨L1,hL1⟩:∃ L:World,L=w2.alloc (.cells #[.int .i64 x0,.slice ua2 un2 uc2] 131):=⟨_,rfl⟩;have HL1:=ae hL1;clear hL1;have e0:=(by rw [HL1.out];exact ((af.refl w2).alloc _).cell d0':L1.cell? ⟨w.heap.size,0,none⟩=some (.int .i64 V));have e1:=(by rw [HL1.out];exact ((af.refl w2).alloc _).cell d1':L1.cell? ⟨w.heap.size,1,none⟩=some (.slice a n c));have e2:=(by rw [HL1.out];exact ((af.refl w2).alloc _).cell d2':L1.cell? ⟨w.heap.size,2,none⟩=some (.int .i64 T));have HKL:Hid (af w L1):=ae (by rw [HL1.out];exact HK2.out.trans ((af.refl w2).alloc _))
 have HO1:Hid (aw none L1 0 (.slice (some ⟨w2.heap.size,0,none⟩) 1 1) [c0]):=ae (by
  rw [HL1.out];exact aw.one (by rw [<-HX0.out];exact heap_alloc_new w2 _) (HU2.out.kept ((af.refl w2).alloc _)) HC0.out (Nat.zero_le _))
 clear d0' d1' d2';go_loopg [6,7] nl (fun kx s6 s7 wr=>∃ (L st:List Nat) (m:Nat) (vr vs:Value),s6=vr/\s7=vs/\m<=kx/\Hid (ep V T f L st m/\st.length+m<=128)/\Hid (aw vs.ownBlock wr 0 vr L)/\Hid (OwnInts wr L1.heap.size vs (aO st))/\Hid (af L1 wr))
 case atStart=>exact ⟨[c0],[],nl,_,_,rfl,rfl,Nat.le_refl _,ae ⟨HST0.out,by simpa using h128⟩,ae (by have:=HO1.out;rw [HL1.out] at this;exact this),ae (OwnInts.nil _ _),ae (by rw [HL1.out];exact af.refl _)⟩
 case round =>
  obtain ⟨wo,rfl⟩:∃ wo:World,wo=wr:=⟨_,rfl⟩;obtain ⟨L,st,m,vr,vs,rfl,rfl,hmk,HST,HOR,HOS,HK⟩:=hrel;obtain ⟨va,vc,hvr,_⟩:=HOR.out.slice;obtain ⟨ln,hln⟩:∃ ln,ln=L.length:=⟨_,rfl⟩;rw [<-hln] at hvr;have hlb:ln<=1024:=by rw [hln];exact HST.out.1.len
  subst hvr;have HLN:=ae hln;have HG:=ae (mB 0 _ L wo HOR.out);have d0:=HK.out.cell e0;have d1:=HK.out.cell e1;have d2:=HK.out.cell e2;obtain ⟨sa,sn,sc,hvs⟩:=HOS.out.ints.shape;subst hvs;clear hln;go_wp2_with fail;refine HG.out.mono ?_;rintro e w3 ⟨⟨r,rfl,hg⟩,hk3⟩;have HGT:=ae hg;have HK3:=ae hk3;by_cases hr0:r<0
  ·clear hg hk3 d0 d1 d2;go_wp2;go_ret3;refine ⟨?_,HKL.out.trans (HK.out.trans HK3.out)⟩;obtain ⟨R,hR,hp⟩:=HST.out.1.done fun c hc j hj=>by have:=HGT.out.1 c hc j hj;omega
   rw [hR];exact ⟨_,_,_,L,rfl,HOR.out.kept HK3.out,hp,(HOS.out.mono (Nat.zero_le _)).kept HK3.out⟩
  ·obtain ⟨i,rfl,hib⟩:=hg.2.resolve_left (by omega);obtain ⟨him,hmk2,_⟩:=HST.out.1.at hib fun c hc j hj=>by have:=hg.1 c hc j hj;omega
   have hle:=HST.out.1.le;have hil:i<f.nodes.length:=by omega
   obtain ⟨b,o,n',c',ua,un,uc,hveq,hn',hnr⟩:=HNR.out i hil;injection hveq with q1 q2 q3
   subst q1;rw [<-q2,<-HNL.out] at hn';have hkd:=HMO.out i hil hmk2;have hok:=HOK.out;have h128':=hok.n128;have hargs:∀ a∈f.nodes[i].args,0<=a/\a<(V:Int)+128:=fun a ha=>by have:=hok.args i hil a ha;omega
   have h16:f.nodes[i].args.length<=16:=jF (hok.argc i hil);have hne:f.nodes[i].kind≠0->1<=f.nodes[i].args.length:=fun h0=>qT (hok.argc i hil) h0
   have hk4:f.nodes[i].kind=4->1<=f.nodes[i].k/\f.nodes[i].k<=f.nodes[i].args.length:=fun h4=>by
    have:=hok.arity i hil;unfold gi at this;rw [if_neg (by omega),if_pos h4] at this;split at this
    ·omega
    ·cases this
   have hx:f.nodes.getD i bZ=f.nodes[i]:=by simp [List.getD_eq_getElem?_getD,hil]
   obtain ⟨x,hxx⟩:∃ x,x=f.nodes[i]:=⟨_,rfl⟩;rw [<-hxx] at hnr hkd hargs h16 hne hk4 hx;have HX:=ae hx;have hin:i<n:=by rw [hn',HNL.out];exact hil
   have hi128:i<128:=by omega
   have hkw3:=HKL.out.trans (HK.out.trans hk3);have HEX:=ae (qw (Z:=(Value.slice sa sn sc).ownBlock) 0 V i b o n c T x ua un uc (.slice va ln vc) L w3 (fun z hz=>by have h1:=(HOS.out.1.lt z hz).2;have h2:=hk3.size;omega) h24 (HOR.out.kept hk3) HST.out.1.len hi128 hin (hnr w3 hkw3).1 (hnr w3 hkw3).2 hargs h16 hkd hk4 hne fun c hc j hj=>by have:=HGT.out.1 c hc j hj;omega);have d0':=hk3.cell d0;have d1':=hk3.cell d1;have d2':=hk3.cell d2;have HHI:Hid ((∃ c∈L,c.testBit (24+i)=true)/\∀ c∈L,∀ j,c.testBit (24+j)=true->j<=i):=ae ⟨hib,fun c hc j hj=>by have:=hg.1 c hc j hj;omega⟩;have hsz3:=hk3.size;clear hnr hkd hargs h16 hk4 hne hx hxx hok hmk2 q2 q3 hn' hg hib hil hk3 d0 d1 d2 hkw3;go_wp2_with fail;refine HEX.out.mono ?_;rintro e w4 ⟨⟨hbig,v4,rfl⟩ | ⟨hsm,v4,rfl,ho4⟩,hk4⟩
   ·have HBG:=ae hbig;have HK4:=ae hk4;clear hbig hk4;go_wp2;go_ret3;refine ⟨?_,HKL.out.trans (HK.out.trans (HK3.out.trans HK4.out))⟩;rw [HST.out.1.full HHI.out.1 HHI.out.2 (by rw [HX.out];exact HBG.out)];exact kD _
   ·have HSM:=ae hsm;have HK4:=ae hk4;have HMN:=ae (oD (w3.heap.size) v4 _ w4 ho4);obtain ⟨va4,vc4,rfl,_⟩:=ho4.slice;have hsz4:=hk4.size;clear hsm hk4 ho4;go_wp2_with fail;refine HMN.out.mono ?_;rintro e w6 ⟨⟨v6,rfl,ho6⟩,hk6⟩;have HO6:=ae ho6;have HP6:=ae (qo (bp V x i L));obtain ⟨M,hM⟩:∃ M,M=ke (bp V x i L):=⟨_,rfl⟩;rw [<-hM] at HO6 HP6;have hn6b:=HO6.out.len;obtain ⟨va6,vc6,hv6,_⟩:=HO6.out.slice;obtain ⟨n6,hn6⟩:∃ n6,n6=M.length:=⟨_,rfl⟩;rw [<-hn6] at hv6 hn6b;subst hv6;have HN6:=ae hn6;have HKA:Hid (af wo w6):=ae (HK3.out.trans (HK4.out.trans hk6));have HKB:Hid (af L1 w6):=ae (HK.out.trans HKA.out);have hsz6:=hk6.size;clear hn6 ho6 hk6 hM HMN;by_cases hbig6:1024<n6
    ·have hbig6':(n6:Int) > 1024:=by omega
     go_wp2;go_ret3;refine ⟨?_,HKL.out.trans HKB.out⟩;rw [HST.out.1.many (M:=M) HHI.out.1 HHI.out.2 (by rw [HX.out];exact HP6.out) (by rw [<-HN6.out];exact hbig6)];exact kD _
    ·have hbig6':¬ (n6:Int) > 1024:=by omega
     have HS2:=ae (HST.out.1.next (M:=M) HOK.out HHI.out.1 HHI.out.2 (by rw [HX.out];exact HSM.out) (by rw [HX.out];exact HP6.out) (by rw [<-HN6.out];omega));have HOS6:=ae (HOS.out.kept HKA.out);have hst:=HST.out.2;have hstl:(aO st).length=st.length:=by simp [aO]
     have hszL:=HKB.out.size;go_wp2_with (at_builtin;refine qS rfl _ _ rfl L1.heap.size _ (aO st) rfl (HOS6.out.kept ((af.refl _).alloc _)) _ (n6:Int) rfl (by simp) (by rw [hstl];omega) (by simp;omega) ?_;intro g7 cap7 w7 hown7 hg7 hat7 hb7;have O7:=ae hown7;have HB7:=ae hb7;have HG7:=ae hg7;have HA7:=ae hat7;clear hown7 hb7 hg7 hat7);go_roundg i
     case measure=>omega
     case rel =>
      refine ⟨M,st++[n6],i,_,_,rfl,rfl,Nat.le_refl _,ae ⟨by have:=HS2.out;rw [<-HN6.out] at this;exact this,by simp;omega⟩,ae ?_,ae ?_,ae ?_⟩
      ·exact (aw.stepped (HO6.out.kept ((af.refl _).alloc _)) (HOS6.out.kept ((af.refl _).alloc _)) HG7.out HA7.out).mono (Nat.zero_le _)
      ·have:=O7.out;simpa [aO] using this
      ·exact (HKB.out.alloc _).app HB7.out
end
theorem sr (v:Value) (f:Fm) (V T:Nat) (w:World) (hv:aQ w v f.nodes) (hok:Ok f V T) (hs:gG V T f=false) :
  Calls Tryz.prog 106 #[.agg #[.int .i64 V,v,.int .i64 T]] w fun e w'=>e=.returned (.tuple #[.slice none 0 0,.slice none 0 0,.int .i64 7])/\af w w':=by
 have HTY:Hid (∀ W,af w W->Calls Tryz.prog 165 #[.agg #[.int .i64 V,v,.int .i64 T]] W fun e w'=>e=.returned (.int .i64 7)/\af W w'):=ae fun W hk=>by
  have:=nJ v f V T W (hv.kept hk) hok;rw [if_neg (by rw [hs];decide)] at this;exact this
 obtain ⟨a,c,rfl,hv2⟩:=hv;clear hs hok hv2;go_enter Tryz.func106,Tryz.ntmps106;go_wp2_with (go_at_call 165;refine (HTY.out _ ((af.refl _).alloc _)).mono ?_;rintro e w1 ⟨rfl,hk1⟩);go_ret3;exact ⟨rfl,((af.refl _).alloc _).trans hk1⟩
theorem kI (v:Value) (V T q:Nat) (hq:q≠0) (w:World) (hs:∃ a n c,v=.slice a n c) (hr:∀ W,af w W->Calls Tryz.prog 106 #[.agg #[.int .i64 V,v,.int .i64 T]] W fun e w'=>e=.returned (.tuple #[.slice none 0 0,.slice none 0 0,.int .i64 q])/\af W w') :
  Calls Tryz.prog 63 #[.agg #[.int .i64 V,v,.int .i64 T]] w fun e w'=>e=.returned (.tuple #[.slice none 0 0,.int .i64 q])/\af w w':=by
 obtain ⟨a,n,c,rfl⟩:=hs;have H:=ae hr;have b1:((q:Int) != 0)=true:=by simp;omega
 clear hr hq;go_enter Tryz.func63,Tryz.ntmps63;go_wp2_with (go_at_call 106;refine (H.out _ ((af.refl _).alloc _)).mono ?_;rintro e w1 ⟨rfl,hk1⟩);go_ret2;exact ⟨rfl,((af.refl _).alloc _).trans hk1⟩
def sQ (w':World) (e:Ending) (p:List Nat × List Nat):Prop:=∃ Z v1 v2 L,e=.returned (.tuple #[v1,v2,.int .i64 0])/\aw Z w' 0 v1 L/\L.Perm p.1/\OwnInts w' 0 v2 (aO p.2)
theorem sF (v:Value) (V T:Nat) (p:List Nat × List Nat) (w:World) (hg:Good p.1) (hm:∀ r∈p.1,Mk r) (hs:∃ a n c,v=.slice a n c) (hr:∀ W,af w W->Calls Tryz.prog 106 #[.agg #[.int .i64 V,v,.int .i64 T]] W fun e w'=>sQ w' e p/\af W w') :
  Calls Tryz.prog 63 #[.agg #[.int .i64 V,v,.int .i64 T]] w fun e w'=>(∃ v',e=.returned (.tuple #[v',.int .i64 0])/\aq w' v' (aO p.1))/\af w w':=by
 obtain ⟨a,n,c,rfl⟩:=hs;have H:=ae hr;have HG:=ae hg;have HM:=ae hm;clear hr hg hm;go_enter Tryz.func63,Tryz.ntmps63;go_wp2_with (go_at_call 106;refine (H.out _ ((af.refl _).alloc _)).mono ?_;rintro e w1 ⟨⟨Z1,v1,v2,L,rfl,ho1,hp1,ho2⟩,hk1⟩;obtain ⟨ln,hln⟩:∃ ln,ln=L.length:=⟨_,rfl⟩;obtain ⟨a1,c1,rfl,_⟩:=ho1.slice;obtain ⟨a2,n2,c2,rfl⟩:=ho2.ints.shape;rw [<-hln] at ho1;rw [<-hln];have O1:=ae ho1;have HLN:=ae hln;have HP1:=ae hp1;have hlb:ln<=20000:=(by rw [hln];exact ho1.len);clear hln hp1 ho1 ho2);have hk1w:=((af.refl _).alloc _).trans hk1;have HK1:=ae hk1w;clear hk1w hk1;go_loopg [7,21] ln (fun kx s7 s21 wr=>∃ (k:Nat) (vo:Value),s7=vo/\s21=.int .i64 k/\k<=ln/\ln - k<=kx/\Hid (OwnInts wr w1.heap.size vo (aO (L.take k)))/\Hid (af w1 wr))
 case atStart=>exact ⟨0,_,rfl,rfl,Nat.zero_le _,by omega,ae (OwnInts.nil _ _),ae (af.refl _)⟩
 case round =>
  obtain ⟨k,vo,rfl,rfl,hk,hkx,HO,HK⟩:=hrel;have hsz:=HK.out.size;obtain ⟨ao,no,co,hvo⟩:=HO.out.ints.shape;subst hvo;by_cases hlt:k<ln
  ·have hkl:k<L.length:=by have:=HLN.out;omega
   obtain ⟨b,ua,um,uc,rfl,_,_,hrg⟩:=(O1.out.kept HK.out).get k hkl;have hmk:Mk L[k]:=HM.out _ (HP1.out.mem_iff.1 (List.getElem_mem _));have hev:aZ L[k]=L[k]:=by unfold aZ;unfold Mk at hmk;omega
   have hnext:aO (L.take (k+1))=aO (L.take k)++[((aZ L[k]:Nat):Int)]:=by unfold aO;rw [hev,List.take_succ_eq_append_getElem hkl,List.map_append];rfl
   have hlen:(aO (L.take k)).length=k:=by simp [aO];omega
   have hkn:(k:Int)<(ln:Int):=by omega
   have HRG:Hid (wr.rangeAt b (k*2) [.int .i64 (aZ L[k]),.slice ua um uc]):=ae hrg;generalize aZ L[k]=z0 at *;have HNX:=ae hnext;clear hrg hmk hev hnext;go_wp2_with (first | (with_reducible refine wpList_load_mid rfl 131 _ rfl b (k*2) rfl _ _ HRG.out Tryz.underlying131 rfl (by kernel_rfl) ?_) | (at_builtin;refine dp rfl _ _ rfl w1.heap.size _ (aO (L.take k)) rfl (HO.out.kept (((af.refl _).alloc _).alloc _)) _ (z0:Int) rfl (by simp) (by rw [hlen];omega) (by simp;omega) ?_;intro v7 w7 hown7 _ hb7;have O7:=ae hown7;have HB7:=ae hb7;clear hown7 hb7));go_roundg (ln - (k+1))
   case measure=>omega
   case rel=>exact ⟨k+1,v7,rfl,by go_num,by omega,Nat.le_refl _,ae (by rw [HNX.out];exact O7.out),ae (((HK.out.alloc _).alloc _).app HB7.out)⟩
  ·have hke:k=ln:=by omega
   have HF:Hid (aT wr (.slice ao no co) L):=ae (by have h:=HO.out;rw [hke,HLN.out,List.take_length] at h;exact ⟨h.ints,fun x hx=>HM.out x (HP1.out.mem_iff.1 hx)⟩);have HLB:Hid (L.length<=8796093022208):=ae (by rw [<-HLN.out];omega);have hkn:¬ (k:Int)<(ln:Int):=by omega
   clear hke;go_wp2_with (go_at_call 107;refine (kg L.length L _ wr (Nat.le_refl _) HF.out HLB.out).mono ?_;rintro e w3 ⟨⟨v3,rfl,ho3⟩,hk3⟩;obtain ⟨a3,n3,c3,rfl⟩:=ho3.1.ints.shape;have O3:=ae ho3;clear ho3);go_ret2
   have he:aR L=p.1:=by
    have hp:p.1.Pairwise eB:=by rw [<-HG.out.1];exact dY _
    exact db eB dr fu _ _ (cE L) hp fun x=>(cd L x).trans HP1.out.mem_iff
   exact ⟨⟨_,rfl,by rw [<-he];exact O3.out.1.ints⟩,HK1.out.trans (HK.out.trans hk3)⟩
theorem zF (v:Value) (f:Fm) (V T:Nat) (hok:Ok f V T) (hck:du f=0) (hs:∃ a n c,v=.slice a n c) :
  (∃ q,((q=4/\gG V T f=true/\kj V T f.nodes=none)\/(q=7/\gG V T f=false))/\∀ W,aQ W v f.nodes ->
   (Calls Tryz.prog 34 #[.agg #[.int .i64 V,v,.int .i64 T]] W fun e w'=>e=.returned (.tuple #[.slice none 0 0,bI q])/\af W w') /\
   (Calls Tryz.prog 63 #[.agg #[.int .i64 V,v,.int .i64 T]] W fun e w'=>e=.returned (.tuple #[.slice none 0 0,.int .i64 q])/\af W w')) ∨
  (∃ p,kj V T f.nodes=some p/\gG V T f=true/\∀ W,aQ W v f.nodes ->
   (Calls Tryz.prog 34 #[.agg #[.int .i64 V,v,.int .i64 T]] W fun e w'=>(∃ v',e=.returned (.tuple #[v',.nilIface])/\aq w' v' (aO p.1))/\af W w') /\
   (Calls Tryz.prog 63 #[.agg #[.int .i64 V,v,.int .i64 T]] W fun e w'=>(∃ v',e=.returned (.tuple #[v',.int .i64 0])/\aq w' v' (aO p.1))/\af W w')):=by
 have hfm:jE v f=.agg #[.int .i64 V,v,.int .i64 T]:=by unfold jE;rw [hok.vars,hok.top]
 cases hsy:gG V T f with
 | false =>
  have h7:∀ W,aQ W v f.nodes->Calls Tryz.prog 77 #[jE v f] W fun e w'=>e=.returned (.tuple #[.slice none 0 0,.slice none 0 0,bI 7])/\af W w':=fun W hW=>by
   rw [hfm]
   exact uV v V T W hs fun W' hk=>by
    have:=nG v f V T W' (hW.kept hk) hok hck;rw [hsy] at this;exact this
  refine .inl ⟨7,.inr ⟨rfl,rfl⟩,fun W hW=>?_⟩;have h1:=nH v f 7 (by omega) W hs (fun W' hk=>h7 W' (hW.kept hk));rw [hfm] at h1;exact ⟨h1,kI v V T 7 (by omega) W hs fun W' hk=>sr v f V T W' (hW.kept hk) hok hsy⟩
 | true =>
  cases hl:kj V T f.nodes with
  | none =>
   have h4:∀ W,aQ W v f.nodes->Calls Tryz.prog 77 #[jE v f] W fun e w'=>e=.returned (.tuple #[.slice none 0 0,.slice none 0 0,bI 4])/\af W w':=fun W hW=>by
    have:=xJ v f V T W hW hok hck hsy;rw [hl,<-hfm] at this;exact this
   have h5:∀ W,aQ W v f.nodes->Calls Tryz.prog 106 #[.agg #[.int .i64 V,v,.int .i64 T]] W fun e w'=>e=.returned (.tuple #[.slice none 0 0,.slice none 0 0,.int .i64 4])/\af W w':=fun W hW=>by
    have:=tn v f V T W hW hok hsy;rw [hl] at this;exact this
   refine .inl ⟨4,.inl ⟨rfl,rfl,rfl⟩,fun W hW=>?_⟩;have h1:=nH v f 4 (by omega) W hs (fun W' hk=>h4 W' (hW.kept hk));rw [hfm] at h1;exact ⟨h1,kI v V T 4 (by omega) W hs fun W' hk=>h5 W' (hW.kept hk)⟩
  | some p =>
   obtain ⟨hg,hm,_⟩:=kl hok hsy hl
   have h0:∀ W,aQ W v f.nodes->Calls Tryz.prog 77 #[.agg #[.int .i64 V,v,.int .i64 T]] W fun e w'=>sR w' e p/\af W w':=fun W hW=>by
    have:=xJ v f V T W hW hok hck hsy;rw [hl] at this;exact this
   have h2:∀ W,aQ W v f.nodes->Calls Tryz.prog 106 #[.agg #[.int .i64 V,v,.int .i64 T]] W fun e w'=>sQ w' e p/\af W w':=fun W hW=>by
    have:=tn v f V T W hW hok hsy;rw [hl] at this;exact this
   exact .inr ⟨p,rfl,rfl,fun W hW=>⟨(xV v V T p W hg hm hs fun W' hk=>h0 W' (hW.kept hk)).mono fun _ _ ⟨⟨v',h1,h3⟩,h4⟩=>⟨⟨v',h1,h3.1.ints⟩,h4⟩,
    sF v V T p W hg hm hs fun W' hk=>h2 W' (hW.kept hk)⟩⟩
theorem pj (v:Value) (ps:List Rw) (w:World) (hv:RatsAt w v ps) (hs:∀ x∈ps,x.Short 34359738368):Calls Tryz.prog 74 #[v] w fun e w'=>e=.returned (.bool (eS ps))/\af w w':=by
 obtain ⟨a,c,rfl,⟨hc,_⟩,hl,hx⟩:=hv;obtain ⟨n,hn⟩:∃ n,n=ps.length:=⟨_,rfl⟩;have hbig:n<=140737488355328:=by omega
 rw [<-hn];have HX:=ae hx;have HN:=ae hn;have HLT:=ae hs;clear hx hn hl hc hs;go_enter Tryz.func74,Tryz.ntmps74;go_wp2_with fail;go_loopg [7] n (fun kx i wr=>∃ k:Nat,k<=n/\i=.int .i64 k/\n - k<=kx/\Hid (∀ x∈ps.take k,fi x=true)/\Hid (af w wr))
 case atStart=>exact ⟨0,Nat.zero_le _,rfl,by omega,ae (by simp),ae (af.refl _)⟩
 case round =>
  obtain ⟨k,hk,rfl,hkx,HF,HK⟩:=hrel;by_cases hlt:k<n
  ·have hkl:k<ps.length:=by have:=HN.out;omega
   obtain ⟨b,o,u1,u2,rfl,hrg,hw1,hw2⟩:=HX.out k hkl;have hrg2:=dv hrg HK.out;have hxl:=HLT.out ps[k] (List.getElem_mem _);obtain ⟨x,hxx⟩:∃ x,x=ps[k]:=⟨_,rfl⟩;rw [<-hxx] at hrg2 hxl hw1 hw2;have HXX:=ae hxx;obtain ⟨a1,c1,rfl⟩:=hw1.shape;obtain ⟨a2,c2,rfl⟩:=hw2.shape;have HC:Hid (∀ W,af w W->Calls Tryz.prog 28 #[.agg #[.bool x.neg,.slice a1 x.num.length c1,.slice a2 x.den.length c2]] W fun e W'=>e=.returned (.bool (fi x))/\af W W'):=ae fun W hk=>uS _ x W ⟨_,_,rfl,hw1.kept hk,hw2.kept hk⟩ ⟨Nat.le_trans hxl.1 (by omega),Nat.le_trans hxl.2 (by omega)⟩
   generalize x.num.length=n1 at *;generalize x.den.length=n2 at *;have HRG:Hid (wr.rangeAt b (o+k*3) [.bool x.neg,.slice a1 n1 c1,.slice a2 n2 c2]):=ae hrg2;have hkn:(k:Int)<(n:Int):=by omega
   clear hrg hrg2 hxx hxl hw1 hw2;cases hq:fi x with
   | false =>
    rw [hq] at HC;have HQ:=ae hq;clear hq;go_wp2_with (first | (with_reducible refine wpList_load_mid rfl 29 _ rfl b (o+k*3) rfl _ _ HRG.out Tryz.underlying29 rfl (by kernel_rfl) ?_) | (go_at_call 28;refine (HC.out _ (HK.out.alloc _)).mono ?_;rintro e w' ⟨rfl,hK2⟩));go_ret;have hb:eS ps=true:=List.any_eq_true.2 ⟨x,by rw [HXX.out];exact List.getElem_mem _,by rw [HQ.out];rfl⟩;exact ⟨by rw [hb];rfl,(HK.out.alloc _).trans hK2⟩
   | true =>
    rw [hq] at HC;have HQ:=ae hq;clear hq;go_wp2_with (first | (with_reducible refine wpList_load_mid rfl 29 _ rfl b (o+k*3) rfl _ _ HRG.out Tryz.underlying29 rfl (by kernel_rfl) ?_) | (go_at_call 28;refine (HC.out _ (HK.out.alloc _)).mono ?_;rintro e w' ⟨rfl,hK2⟩));go_roundg (n - (k+1))
    case measure=>omega
    case rel =>
     refine ⟨k+1,by omega,by go_num,Nat.le_refl _,ae ?_,ae ((HK.out.alloc _).trans hK2)⟩;intro y hy;rw [List.take_succ_eq_append_getElem hkl] at hy;rcases List.mem_append.1 hy with hy | hy
     ·exact HF.out y hy
     ·simp at hy;rw [hy,<-HXX.out];exact HQ.out
  ·have hh:=HF.out;rw [List.take_of_length_le (by have:=HN.out;omega)] at hh;have HB:Hid (eS ps=false):=ae (by unfold eS;rw [List.any_eq_false];intro y hy;simp [hh y hy]);have hkn:¬ (k:Int)<(n:Int):=by omega
   clear hh;go_wp2;go_ret;exact ⟨by rw [HB.out];rfl,HK.out⟩
theorem lR (v:Value) (ps:List Rw) (w:World) (hv:RatsAt w v ps) (hs:∀ x∈ps,x.Short 34359738368):Calls Tryz.prog 89 #[v] w fun e w'=>e=.returned (.bool (eS ps))/\af w w':=by
 obtain ⟨a,c,rfl,⟨hc,_⟩,hl,hx⟩:=hv;obtain ⟨n,hn⟩:∃ n,n=ps.length:=⟨_,rfl⟩;have hbig:n<=140737488355328:=by omega
 rw [<-hn];have HX:=ae hx;have HN:=ae hn;have HLT:=ae hs;clear hx hn hl hc hs;go_enter Tryz.func89,Tryz.ntmps89;go_wp2_with fail;go_loopg [7] n (fun kx i wr=>∃ k:Nat,k<=n/\i=.int .i64 k/\n - k<=kx/\Hid (∀ x∈ps.take k,fi x=true)/\Hid (af w wr))
 case atStart=>exact ⟨0,Nat.zero_le _,rfl,by omega,ae (by simp),ae (af.refl _)⟩
 case round =>
  obtain ⟨k,hk,rfl,hkx,HF,HK⟩:=hrel;by_cases hlt:k<n
  ·have hkl:k<ps.length:=by have:=HN.out;omega
   obtain ⟨b,o,u1,u2,rfl,hrg,hw1,hw2⟩:=HX.out k hkl;have hrg2:=dv hrg HK.out;have hxl:=HLT.out ps[k] (List.getElem_mem _);obtain ⟨x,hxx⟩:∃ x,x=ps[k]:=⟨_,rfl⟩;rw [<-hxx] at hrg2 hxl hw1 hw2;have HXX:=ae hxx;obtain ⟨a1,c1,rfl⟩:=hw1.shape;obtain ⟨a2,c2,rfl⟩:=hw2.shape;have HC:Hid (∀ W,af w W->Calls Tryz.prog 73 #[.agg #[.bool x.neg,.slice a1 x.num.length c1,.slice a2 x.den.length c2]] W fun e W'=>e=.returned (.bool (fi x))/\af W W'):=ae fun W hk=>qv _ x W ⟨_,_,rfl,hw1.kept hk,hw2.kept hk⟩ ⟨Nat.le_trans hxl.1 (by omega),Nat.le_trans hxl.2 (by omega)⟩
   generalize x.num.length=n1 at *;generalize x.den.length=n2 at *;have HRG:Hid (wr.rangeAt b (o+k*3) [.bool x.neg,.slice a1 n1 c1,.slice a2 n2 c2]):=ae hrg2;have hkn:(k:Int)<(n:Int):=by omega
   clear hrg hrg2 hxx hxl hw1 hw2;cases hq:fi x with
   | false =>
    rw [hq] at HC;have HQ:=ae hq;clear hq;go_wp2_with (first | (with_reducible refine wpList_load_mid rfl 29 _ rfl b (o+k*3) rfl _ _ HRG.out Tryz.underlying29 rfl (by kernel_rfl) ?_) | (go_at_call 73;refine (HC.out _ (HK.out.alloc _)).mono ?_;rintro e w' ⟨rfl,hK2⟩));go_ret;have hb:eS ps=true:=List.any_eq_true.2 ⟨x,by rw [HXX.out];exact List.getElem_mem _,by rw [HQ.out];rfl⟩;exact ⟨by rw [hb];rfl,(HK.out.alloc _).trans hK2⟩
   | true =>
    rw [hq] at HC;have HQ:=ae hq;clear hq;go_wp2_with (first | (with_reducible refine wpList_load_mid rfl 29 _ rfl b (o+k*3) rfl _ _ HRG.out Tryz.underlying29 rfl (by kernel_rfl) ?_) | (go_at_call 73;refine (HC.out _ (HK.out.alloc _)).mono ?_;rintro e w' ⟨rfl,hK2⟩));go_roundg (n - (k+1))
    case measure=>omega
    case rel =>
     refine ⟨k+1,by omega,by go_num,Nat.le_refl _,ae ?_,ae ((HK.out.alloc _).trans hK2)⟩;intro y hy;rw [List.take_succ_eq_append_getElem hkl] at hy;rcases List.mem_append.1 hy with hy | hy
     ·exact HF.out y hy
     ·simp at hy;rw [hy,<-HXX.out];exact HQ.out
  ·have hh:=HF.out;rw [List.take_of_length_le (by have:=HN.out;omega)] at hh;have HB:Hid (eS ps=false):=ae (by unfold eS;rw [List.any_eq_false];intro y hy;simp [hh y hy]);have hkn:¬ (k:Int)<(n:Int):=by omega
   clear hh;go_wp2;go_ret;exact ⟨by rw [HB.out];rfl,HK.out⟩
def dg (y n:Nat):List Nat->List (Nat × Nat)
 | []=>[]
 | i :: is=>(y,n ||| 2^i) :: dg (y ||| 2^i) n is
def cj (c:Nat × Nat) (s:Nat):List (Nat × Nat):=if s &&& c.2≠0 then [c] else dg c.1 c.2 (dJ (aD s c.1))
def bn (l:List (Nat × Nat)) (s:Nat):List (Nat × Nat):=l.flatMap fun c=>cj c s
def eM (most:Nat):List Nat->List (Nat × Nat)->Option (List (Nat × Nat))
 | [],l=>some l
 | b :: bs,l=>if most<(bn l b).length then none else eM most bs (bn l b)
def cubesC (pre:List Nat) (out:List (Nat × Nat)):List Nat->Option (List (Nat × Nat))
 | []=>some out
 | s :: r=>match eM (1024 - out.length) pre [(s,0)] with
  | none=>none
  | some l=>cubesC (pre++[s]) (out++l) r
def cO (L:List Nat):Option (List (Nat × Nat)):=cubesC [] [] L
def lz (c:Nat × Nat) (s:Nat):Bool:=subN c.1 s&&(c.2 &&& s == 0)
def cnt (l:List (Nat × Nat)) (s:Nat):Nat:=(l.filter fun c=>lz c s).length
theorem eI {a b:Nat}:(a &&& b == 0)=true ↔ ∀ i,a.testBit i=true->b.testBit i=false:=by
 rw [beq_iff_eq];constructor
 ·intro h i hi
  have:(a &&& b).testBit i=false:=by rw [h];exact Nat.zero_testBit i
  rw [Nat.testBit_and,hi] at this;simpa using this
 ·intro h;apply Nat.eq_of_testBit_eq;intro i;rw [Nat.testBit_and,Nat.zero_testBit];cases ha:a.testBit i with
  | false=>rfl
  | true=>rw [h i ha];rfl
theorem fh {c:Nat × Nat} {s:Nat}:lz c s=true ↔ (∀ i,c.1.testBit i=true->s.testBit i=true)/\∀ i,c.2.testBit i=true->s.testBit i=false:=by
 unfold lz;rw [Bool.and_eq_true,bk,eI]
theorem i' (s:Nat):cnt [] s=0:=rfl
theorem fz (c:Nat × Nat) (l:List (Nat × Nat)) (s:Nat):cnt (c :: l) s=(if lz c s=true then 1 else 0)+cnt l s:=by
 unfold cnt;rw [List.filter_cons];split
 ·rw [List.length_cons,Nat.add_comm]
 ·omega
theorem kP (a b:List (Nat × Nat)) (s:Nat):cnt (a++b) s=cnt a s+cnt b s:=by
 unfold cnt;rw [List.filter_append,List.length_append]
theorem zV (y n i s:Nat):lz (y,n ||| 2^i) s=(lz (y,n) s&&!s.testBit i):=by
 rw [Bool.eq_iff_iff,Bool.and_eq_true,fh,fh];constructor
 ·rintro ⟨h1,h2⟩;refine ⟨⟨h1,fun j hj=>h2 j ?_⟩,?_⟩
  ·show (n ||| 2^i).testBit j=true;rw [Nat.testBit_or,hj];rfl
  ·rw [h2 i (by show (n ||| 2^i).testBit i=true;rw [Nat.testBit_or,Nat.testBit_two_pow_self];simp)];rfl
 ·rintro ⟨⟨h1,h2⟩,h3⟩;refine ⟨h1,fun j hj=>?_⟩;replace hj:(n ||| 2^i).testBit j=true:=hj;rw [Nat.testBit_or,Nat.testBit_two_pow,Bool.or_eq_true,decide_eq_true_eq] at hj;rcases hj with hj | rfl
  ·exact h2 j hj
  ·simpa using h3
theorem yD (y n i s:Nat):lz (y ||| 2^i,n) s=(lz (y,n) s&&s.testBit i):=by
 rw [Bool.eq_iff_iff,Bool.and_eq_true,fh,fh];constructor
 ·rintro ⟨h1,h2⟩;refine ⟨⟨fun j hj=>h1 j ?_,h2⟩,h1 i ?_⟩
  ·show (y ||| 2^i).testBit j=true;rw [Nat.testBit_or,hj];rfl
  ·show (y ||| 2^i).testBit i=true;rw [Nat.testBit_or,Nat.testBit_two_pow_self];simp
 ·rintro ⟨⟨h1,h2⟩,h3⟩;refine ⟨fun j hj=>?_,h2⟩;replace hj:(y ||| 2^i).testBit j=true:=hj;rw [Nat.testBit_or,Nat.testBit_two_pow,Bool.or_eq_true,decide_eq_true_eq] at hj;rcases hj with hj | rfl
  ·exact h1 j hj
  ·exact h3
theorem tL (n s:Nat):∀ (is:List Nat) (y:Nat),cnt (dg y n is) s=if lz (y,n) s=true/\(∃ i∈is,s.testBit i=false) then 1 else 0:=by
 intro is;induction is with
 | nil=>intro y;simp [dg,i']
 | cons i is ih =>
  intro y;rw [dg,fz,ih,zV,yD];cases h1:lz (y,n) s <;> cases h2:s.testBit i <;> simp [h2]
theorem tK {c:Nat × Nat} {b s:Nat} (hb:b<16777216):cnt (cj c b) s=if lz c s=true/\subN b s=false then 1 else 0:=by
 obtain ⟨y,n⟩:=c;unfold cj;by_cases h:b &&& n≠0
 ·rw [if_pos h,fz,i',Nat.add_zero]
  have:lz (y,n) s=true->subN b s=false:=by
   intro h1;cases h2:subN b s with
   | false=>rfl
   | true =>
    refine absurd ?_ h;have h3:=fh.1 h1;have h4:=bk.1 h2;apply Nat.eq_of_testBit_eq;intro i;rw [Nat.testBit_and,Nat.zero_testBit];cases hb:b.testBit i with
    | false=>rfl
    | true =>
     cases hn:n.testBit i with
     | false=>rfl
     | true=>exact absurd (h4 i hb) (by rw [h3.2 i hn];decide)
  by_cases h1:lz (y,n) s=true
  ·rw [if_pos h1,if_pos ⟨h1,this h1⟩]
  ·rw [if_neg h1,if_neg (fun h=>h1 h.1)]
 ·rw [if_neg h,tL]
  have:lz (y,n) s=true->((∃ i∈dJ (aD b y),s.testBit i=false) ↔ subN b s=false):=by
   intro h1;have h3:=fh.1 h1;constructor
   ·rintro ⟨i,hi,h4⟩;cases h5:subN b s with
    | false=>rfl
    | true =>
     have h6:=(dK hi).2;rw [bA,Bool.and_eq_true] at h6;rw [bk.1 h5 i h6.1] at h4;cases h4
   ·intro h4;refine Classical.byContradiction fun h5=>?_
    have h6:subN b s=true:=bk.2 fun i hi=>by
     cases hs:s.testBit i with
     | true=>rfl
     | false =>
      refine absurd ⟨i,?_,hs⟩ h5;unfold dJ;rw [List.mem_filter,List.mem_range,bA,hi];refine ⟨?_,?_⟩
      ·refine Nat.lt_of_not_le fun h=>?_
       have h7:2^24<=b:=Nat.le_trans (Nat.pow_le_pow_right (by omega) h) (Nat.ge_two_pow_of_testBit hi);exact absurd (show (2:Nat)^24<=b from h7) (by rw [show (2:Nat)^24=16777216 from rfl];omega)
      ·cases hy:y.testBit i with
       | false=>rfl
       | true=>rw [h3.1 i hy] at hs;cases hs
    rw [h6] at h4;cases h4
  by_cases h1:lz (y,n) s=true
  ·simp only [h1,true_and];by_cases h2:subN b s=false
   ·rw [if_pos ((this h1).2 h2),if_pos h2]
   ·rw [if_neg (fun h=>h2 ((this h1).1 h)),if_neg h2]
  ·rw [if_neg (fun h=>h1 h.1),if_neg (fun h=>h1 h.1)]
theorem tM {b s:Nat} (hb:b<16777216):∀ l,cnt (bn l b) s=if subN b s=true then 0 else cnt l s:=by
 intro l;induction l with
 | nil=>simp [bn,i']
 | cons c l ih =>
  have e:bn (c :: l) b=cj c b++bn l b:=by simp [bn]
  rw [e,kP,ih,tK hb,fz];cases h1:lz c s <;> cases h2:subN b s <;> simp
theorem yv {most s:Nat}:∀ {bs:List Nat} {l l':List (Nat × Nat)},(∀ b∈bs,b<16777216)->eM most bs l=some l'->cnt l' s=if covB bs s=true then 0 else cnt l s:=by
 intro bs;induction bs with
 | nil =>
  intro l l' _ h;cases h;simp [covB]
 | cons b bs ih =>
  intro l l' hb h;rw [eM] at h;split at h
  ·cases h
  ·rw [ih (fun x hx=>hb x (List.mem_cons_of_mem _ hx)) h,tM (hb b List.mem_cons_self)];have e:covB (b :: bs) s=(subN b s||covB bs s):=by simp [covB]
   rw [e];cases h1:subN b s <;> cases h2:covB bs s <;> simp
theorem rg {s:Nat}:∀ {r pre:List Nat} {out out':List (Nat × Nat)},(∀ b∈pre++r,b<16777216)->cubesC pre out r=some out' ->
  cnt out' s=cnt out s+if covB pre s=true then 0 else if covB r s=true then 1 else 0:=by
 intro r;induction r with
 | nil =>
  intro pre out out' _ h;cases h;simp [covB]
 | cons x r ih =>
  intro pre out out' hb h;rw [cubesC] at h;split at h
  ·cases h
  ·rename_i l hl;rw [ih (fun b h=>hb b (by simpa using h)) h,kP,yv (fun b h=>hb b (List.mem_append_left _ h)) hl];have e0:lz (x,0) s=subN x s:=by unfold lz;simp
   have e1:cnt [(x,0)] s=if subN x s=true then 1 else 0:=by rw [fz,i',e0,Nat.add_zero]
   have e2:covB (pre++[x]) s=(covB pre s||subN x s):=by simp [covB]
   have e3:covB (x :: r) s=(subN x s||covB r s):=by simp [covB]
   rw [e1,e2,e3];cases h1:covB pre s <;> cases h2:subN x s <;> cases h3:covB r s <;> simp
theorem tJ {L:List Nat} {out:List (Nat × Nat)} (hb:∀ b∈L,b<16777216) (h:cO L=some out) (s:Nat):cnt out s=if covB L s=true then 1 else 0:=by
 have:=rg (s:=s) (r:=L) (pre:=[]) (out:=[]) (by simpa using hb) h;rw [this,i'];simp [covB]
theorem yO {Pr:Nat × Nat->Prop} {most:Nat}:∀ {bs:List Nat} {l l':List (Nat × Nat)},(∀ b∈bs,∀ c,Pr c->∀ d∈cj c b,Pr d)->(∀ c∈l,Pr c)->eM most bs l=some l'->∀ c∈l',Pr c:=by
 intro bs;induction bs with
 | nil=>intro l l' _ h1 h;cases h;exact h1
 | cons b bs ih =>
  intro l l' hb h1 h;rw [eM] at h;split at h
  ·cases h
  ·refine ih (fun x hx=>hb x (List.mem_cons_of_mem _ hx)) ?_ h;intro c hc;obtain ⟨d,hd,hc⟩:=List.mem_flatMap.1 hc;exact hb b List.mem_cons_self d (h1 d hd) c hc
theorem ri {Pr:Nat × Nat->Prop} {L:List Nat}:∀ {r pre:List Nat} {out out':List (Nat × Nat)},(∀ b∈L,∀ c,Pr c->∀ d∈cj c b,Pr d)->(∀ b∈L,Pr (b,0))->(∀ b∈pre++r,b∈L)->(∀ c∈out,Pr c) ->
  cubesC pre out r=some out'->∀ c∈out',Pr c:=by
 intro r;induction r with
 | nil=>intro pre out out' _ _ _ h2 h;cases h;exact h2
 | cons x r ih =>
  intro pre out out' hP h0 hL h2 h;rw [cubesC] at h;split at h
  ·cases h
  ·rename_i l hl;refine ih hP h0 (fun b h=>hL b (by simpa using h)) ?_ h;intro c hc;rcases List.mem_append.1 hc with hc | hc
   ·exact h2 c hc
   ·refine yO (fun b hb=>hP b (hL b (List.mem_append_left _ hb))) ?_ hl c hc;intro c hc;rw [List.mem_singleton] at hc;rw [hc];exact h0 x (hL x (by simp))
theorem mJ {Pr:Nat × Nat->Prop} {L:List Nat} {out:List (Nat × Nat)} (hP:∀ b∈L,∀ c,Pr c->∀ d∈cj c b,Pr d) (h0:∀ b∈L,Pr (b,0)) (h:cO L=some out):∀ c∈out,Pr c :=
 ri hP h0 (by simp) (by simp) h
theorem jN {Pr:Nat × Nat->Prop} {n:Nat}:∀ {is:List Nat} {y:Nat},is.Nodup->(∀ i∈is,y.testBit i=false) ->
  (∀ (y' i:Nat),i∈is->(∀ j,y'.testBit j=true->y.testBit j=true\/j∈is)->(∀ j,y.testBit j=true->y'.testBit j=true)->y'.testBit i=false->Pr (y',n ||| 2^i))->∀ d∈dg y n is,Pr d:=by
 intro is;induction is with
 | nil=>intro y _ _ _ d hd;cases hd
 | cons i is ih =>
  intro y hn hy hP d hd;rw [dg] at hd;rcases List.mem_cons.1 hd with rfl | hd
  ·exact hP y i List.mem_cons_self (fun j h=>.inl h) (fun j h=>h) (hy i List.mem_cons_self)
  ·have hn2:=List.nodup_cons.1 hn;refine ih hn2.2 ?_ ?_ d hd
   ·intro j hj;rw [Nat.testBit_or,hy j (List.mem_cons_of_mem _ hj),Nat.testBit_two_pow]
    have:i≠j:=fun h=>hn2.1 (h ▸ hj)
    simp [this]
   ·intro y' j hj h1 h2 h3;refine hP y' j (List.mem_cons_of_mem _ hj) ?_ ?_ h3
    ·intro k hk;rcases h1 k hk with h | h
     ·rw [Nat.testBit_or,Nat.testBit_two_pow,Bool.or_eq_true,decide_eq_true_eq] at h;rcases h with h | rfl
      ·exact .inl h
      ·exact .inr List.mem_cons_self
     ·exact .inr (List.mem_cons_of_mem _ h)
    ·intro k hk;refine h2 k ?_;rw [Nat.testBit_or,hk];rfl
theorem gp (s:Nat):(dJ s).Nodup:=List.nodup_range.filter _
def qR (c:Nat × Nat):Prop:=c.1<16777216/\c.2<16777216/\c.1 &&& c.2=0
theorem nc {x:Nat} (h:∀ j,x.testBit j=true->j<24):x<16777216:=by
 rw [show 16777216=2^24 from rfl]
 exact Nat.lt_pow_two_of_testBit x fun i hi=>by
  cases hx:x.testBit i with
  | false=>rfl
  | true=>have:=h i hx;omega
theorem jG {x j:Nat} (h:x<16777216) (hj:x.testBit j=true):j<24:=by
 refine Nat.lt_of_not_le fun h2=>?_
 have h7:2^24<=x:=Nat.le_trans (Nat.pow_le_pow_right (by omega) h2) (Nat.ge_two_pow_of_testBit hj);rw [show (2:Nat)^24=16777216 from rfl] at h7;omega
theorem er {a b:Nat}:a &&& b=0 ↔ ∀ i,a.testBit i=true->b.testBit i=false:=by
 rw [<-beq_iff_eq];exact eI
theorem yI {b:Nat} {c:Nat × Nat} (hc:qR c):∀ d∈cj c b,qR d:=by
 intro d hd;unfold cj at hd;split at hd
 ·rw [List.mem_singleton] at hd;rw [hd];exact hc
 ·rename_i h;obtain ⟨h1,h2,h3⟩:=hc;have h0:b &&& c.2=0:=Classical.byContradiction h;refine jN (gp _) ?_ ?_ d hd
  ·intro i hi;have:=(dK hi).2;rw [bA,Bool.and_eq_true] at this;simpa using this.2
  ·intro y' i hi h4 _ h5;refine ⟨nc fun j hj=>?_,nc fun j hj=>?_,er.2 fun j hj=>?_⟩
   ·rcases h4 j hj with h | h
    ·exact jG h1 h
    ·exact (dK h).1
   ·replace hj:(c.2 ||| 2^i).testBit j=true:=hj;rw [Nat.testBit_or,Nat.testBit_two_pow,Bool.or_eq_true,decide_eq_true_eq] at hj;rcases hj with h | rfl
    ·exact jG h2 h
    ·exact (dK hi).1
   ·show (c.2 ||| 2^i).testBit j=false;rw [Nat.testBit_or,Nat.testBit_two_pow,Bool.or_eq_false_iff,decide_eq_false_iff_not];refine ⟨?_,?_⟩
    ·rcases h4 j hj with h | h
     ·exact er.1 h3 j h
     ·have h6:=(dK h).2;rw [bA,Bool.and_eq_true] at h6;exact er.1 h0 j h6.1
    ·rintro rfl;rw [h5] at hj;cases hj
theorem jd {L:List Nat} {out:List (Nat × Nat)} (hb:∀ b∈L,b<16777216) (h:cO L=some out):∀ c∈out,qR c :=
 mJ (fun _ _ _ hc=>yI hc) (fun b h=>⟨hb b h,by show (0:Nat)<16777216;decide,by simp⟩) h
def meetC (a b:Nat × Nat):Bool:=a.1 &&& b.2 == 0&&a.2 &&& b.1 == 0
theorem wK {a b:Nat × Nat} (ha:qR a) (hb:qR b) (h:meetC a b=true):lz a (a.1 ||| b.1)=true/\lz b (a.1 ||| b.1)=true:=by
 unfold meetC at h;rw [Bool.and_eq_true,eI,eI] at h;obtain ⟨_,_,ha⟩:=ha;obtain ⟨_,_,hb⟩:=hb;refine ⟨fh.2 ⟨fun i hi=>by rw [Nat.testBit_or,hi];rfl,fun i hi=>?_⟩,fh.2 ⟨fun i hi=>by rw [Nat.testBit_or,hi];simp,fun i hi=>?_⟩⟩
 ·rw [Nat.testBit_or,Bool.or_eq_false_iff];refine ⟨?_,h.2 i hi⟩;cases hx:a.1.testBit i with
  | false=>rfl
  | true=>rw [er.1 ha i hx] at hi;cases hi
 ·rw [Nat.testBit_or,Bool.or_eq_false_iff];refine ⟨?_,?_⟩
  ·cases hx:a.1.testBit i with
   | false=>rfl
   | true=>rw [h.1 i hx] at hi;cases hi
  ·cases hx:b.1.testBit i with
   | false=>rfl
   | true=>rw [er.1 hb i hx] at hi;cases hi
theorem vO {l:List (Nat × Nat)} {s i j:Nat} (hij:j<i) (hi:i<l.length) (h1:lz (l[i]'hi) s=true) (h2:lz (l[j]'(by omega)) s=true):2<=cnt l s:=by
 have e:l=l.take i++l[i]'hi :: l.drop (i+1):=by rw [List.getElem_cons_drop,List.take_append_drop]
 rw [e,kP,fz,if_pos h1];have hj:j<(l.take i).length:=by rw [List.length_take];omega
 have e2:l.take i=(l.take i).take j++(l.take i)[j]'hj :: (l.take i).drop (j+1):=by rw [List.getElem_cons_drop,List.take_append_drop]
 have h3:lz ((l.take i)[j]'hj) s=true:=by rw [List.getElem_take];exact h2
 rw [e2,kP,fz,if_pos h3];omega
theorem pi {L:List Nat} {out:List (Nat × Nat)} (hb:∀ b∈L,b<16777216) (h:cO L=some out) (i j:Nat) (hij:j<i) (hi:i<out.length):meetC (out[i]'hi) (out[j]'(by omega))=false:=by
 cases hm:meetC (out[i]'hi) (out[j]'(by omega)) with
 | false=>rfl
 | true =>
  have hok:=jd hb h;obtain ⟨h1,h2⟩:=wK (hok _ (List.getElem_mem _)) (hok _ (List.getElem_mem _)) hm;have h3:=vO hij hi h1 h2;rw [tJ hb h] at h3;split at h3 <;> omega
theorem xd {most:Nat}:∀ {bs:List Nat} {l l':List (Nat × Nat)},eM most bs l=some l'->bs≠[]->l'.length<=most:=by
 intro bs;induction bs with
 | nil=>intro _ _ _ h;exact absurd rfl h
 | cons b bs ih =>
  intro l l' h _;rw [eM] at h;split at h
  ·cases h
  ·by_cases hb:bs=[]
   ·subst hb;cases h;omega
   ·exact ih h hb
theorem rj:∀ {r pre:List Nat} {out out':List (Nat × Nat)},cubesC pre out r=some out'->out.length<=1024->(pre=[]->out=[])->out'.length<=1024:=by
 intro r;induction r with
 | nil=>intro pre out out' h h1 _;cases h;exact h1
 | cons x r ih =>
  intro pre out out' h h1 h2;rw [cubesC] at h;split at h
  ·cases h
  ·rename_i l hl;refine ih h ?_ (fun h=>absurd h (by simp));rw [List.length_append];by_cases hp:pre=[]
   ·rw [h2 hp];subst hp;cases hl;simp
   ·have:=xd hl hp;omega
theorem mL {L:List Nat} {out:List (Nat × Nat)} (h:cO L=some out):out.length<=1024:=rj h (by decide) (fun _=>rfl)
def EX (q:Nat->Rat):Nat->(Nat->Rat)->Rat
 | 0,F=>F 0
 | n+1,F=>q n*EX q n (fun s=>F (s+2^n))+(1 - q n)*EX q n F
def ind (b:Bool):Rat:=if b=true then 1 else 0
def Bb (c:Nat × Nat) (n s:Nat):Bool:=(List.range n).all fun i=>(!c.1.testBit i||s.testBit i)&&(!c.2.testBit i||!s.testBit i)
def wQ (q:Nat->Rat) (c:Nat × Nat):Nat->Rat
 | 0=>1
 | n+1=>(wQ q c n*if c.1.testBit n=true then q n else 1)*if c.2.testBit n=true then 1 - q n else 1
def ze (q:Nat->Rat) (n:Nat) (l:List (Nat × Nat)):Rat:=l.foldl (fun a c=>a+wQ q c n) 0
def Bo (q:Nat->Rat) (s:Nat):Nat->Rat
 | 0=>1
 | n+1=>Bo q s n*if s.testBit n=true then q n else 1 - q n
def AH (F:Nat->Rat):Nat->Rat
 | 0=>0
 | n+1=>AH F n+F n
def bG (c:Int × Int):List Value:=[.int .i64 c.1,.int .i64 c.2]
abbrev Bj (c:Int × Int):Value:=.agg #[.int .i64 c.1,.int .i64 c.2]
def oQ (c:Nat × Nat):Int × Int:=((c.1:Int),(c.2:Int))
def aP (l:List (Nat × Nat)):List (Int × Int):=l.map oQ
theorem aK (l:List (Nat × Nat)):(aP l).length=l.length:=List.length_map ..
theorem gB (a b:List (Nat × Nat)):aP (a++b)=aP a++aP b:=List.map_append ..
theorem eD {w w':World} {b o:Nat} {cs:List Value} (h:w.rangeAt b o cs) (hk:af w w'):w'.rangeAt b o cs:=fun j v hj=>hk.cell (h j v hj)
def aY (w:World) (v:Value) (L:List (Int × Int)):Prop :=
 ∃ (a:Option Addr) (c:Nat),v=.slice a L.length c/\(L.length<=c/\(a=none->c=0))/\L.length<=1099511627776 /\
  ∀ i (h:i<L.length),∃ b o,a=some ⟨b,o,none⟩/\w.rangeAt b (o+i*2) (bG L[i])
theorem aY.kept {w w':World} {v:Value} {L:List (Int × Int)} (h:aY w v L) (hk:af w w'):aY w' v L:=by
 obtain ⟨a,c,h1,h2,h3,h5⟩:=h;exact ⟨a,c,h1,h2,h3,fun i hi=>let ⟨b,o,h6,h7⟩:=h5 i hi;⟨b,o,h6,eD h7 hk⟩⟩
theorem aY.shape {w:World} {v:Value} {L:List (Int × Int)} (h:aY w v L):∃ a c,v=.slice a L.length c:=by
 obtain ⟨a,c,h,_⟩:=h;exact ⟨a,c,h⟩
theorem aY.len {w:World} {v:Value} {L:List (Int × Int)} (h:aY w v L):L.length<=1099511627776:=by
 obtain ⟨_,_,_,_,h,_⟩:=h;exact h
theorem aY.nil (w:World):aY w (.slice none 0 0) []:=⟨none,0,rfl,⟨by simp,fun _=>rfl⟩,by simp,fun i h=>by simp at h⟩
theorem aY.get {w:World} {a:Option Addr} {n c:Nat} {L:List (Int × Int)} (h:aY w (.slice a n c) L) (i:Nat) (hi:i<L.length) :
  ∃ b o,a=some ⟨b,o,none⟩/\w.cell? ⟨b,o+i*2,none⟩=some (.int .i64 (L.getD i default).1)/\w.cell? ⟨b,o+(i*2+1),none⟩=some (.int .i64 (L.getD i default).2):=by
 obtain ⟨a',c',h1,_,_,h5⟩:=h;injection h1 with h1
 subst h1;obtain ⟨b,o,h6,h7⟩:=h5 i hi;have e:L.getD i default=L[i]:=by simp [List.getD_eq_getElem?_getD,hi]
 rw [e];refine ⟨b,o,h6,?_,?_⟩
 ·have:=h7 0 (.int .i64 L[i].1) rfl;simpa using this
 ·have:=h7 1 (.int .i64 L[i].2) rfl;rw [<-Nat.add_assoc];simpa using this
def bv (w:World) (B:Nat) (v:Value) (L:List (Int × Int)):Prop :=
 w.ownsRow B 114 2 v L.length (L.flatMap bG)/\L.length<=1099511627776
theorem bv.kept {w w':World} {B:Nat} {v:Value} {L:List (Int × Int)} (h:bv w B v L) (hk:af w w'):bv w' B v L:=⟨fH h.1 hk,h.2⟩
theorem bv.nil (w:World) (B:Nat):bv w B (.slice none 0 0) []:=⟨World.ownsRow_nil _ _ _ _,by simp⟩
theorem wE (L:List (Int × Int)):(L.flatMap bG).length=L.length*2:=by
 induction L with
 | nil=>rfl
 | cons c L ih=>simp [bG,ih];omega
theorem vH (L:List (Int × Int)):∀ i (h:i<L.length) j,j<2->(L.flatMap bG)[i*2+j]?=(bG L[i])[j]?:=by
 induction L with
 | nil=>intro i h;simp at h
 | cons c L ih =>
  intro i h j hj;rw [List.flatMap_cons];cases i with
  | zero=>rw [List.getElem?_append_left (by simp [bG];omega)];simp
  | succ i =>
   rw [List.getElem?_append_right (by simp [bG];omega),show (bG c).length=2 from rfl,show (i+1)*2+j - 2=i*2+j by omega];exact ih i (by simpa using h) j hj
theorem bv.at {w:World} {B:Nat} {v:Value} {L:List (Int × Int)} (h:bv w B v L):aY w v L:=by
 obtain ⟨⟨h1,h2⟩,h3⟩:=h;rcases h2 with ⟨rfl,h6⟩ | ⟨g,cap,cur,rfl,h6,h7,h8,h9,h10,h11⟩
 ·have:L=[]:=List.eq_nil_of_length_eq_zero h6
  subst this;exact aY.nil w
 ·refine ⟨some ⟨g,0,none⟩,cap,rfl,⟨h8,fun h=>by cases h⟩,h3,fun i hi=>⟨g,0,rfl,fun j u hj=>?_⟩⟩
  have hj3:j<2:=by
   have:=(List.getElem?_eq_some_iff.1 hj).1;simpa [bG] using this
  have e1:(cur.toList.take (L.length*2))[i*2+j]?=(L.flatMap bG)[i*2+j]?:=by rw [h11]
  rw [List.getElem?_take_of_lt (by omega),vH L i hi j hj3,hj] at e1;simp only [World.cell?,h7,Nat.zero_add];simpa using e1
theorem mS:(Tryz.prog.info? 114).map (fun i=>(i.zero,i.size,i.bytes))=some (some (.agg #[.int .i64 0,.int .i64 0]),2,16):=by kernel_rfl
theorem zL (L:List (Int × Int)):∀ u∈L.flatMap bG,u.oneCell'=true:=fun u hu=>by
 obtain ⟨c,_,h⟩:=List.mem_flatMap.1 hu;simp [bG] at h;rcases h with rfl | rfl <;> rfl
theorem iX {ops:Array Oper} {rest:List Oper} {o:Oper} {a:Act} {Q:Exit->Act->World->Prop} {w:World} (hgd:o.guard=none) (s x:Operand)
  (ho:o.op=.call { callee:=.builtin .append,args:=#[s,x],argTypes:=#[89,89] }) (B:Nat) (v:Value) (L:List (Int × Int)) (hs:a.eval s=v) (hown:bv w B v L)
  (u:Value) (M:List (Int × Int)) (hx:a.eval x=u) (hu:aY w u M) (hl:L.length+M.length<=1099511627776) (hB:B<=w.heap.size)
  (h:∀ v' w',bv w' B v' (L++M)->w.grownBy w' v.ownBlock->Below B w w'->wpList Tryz.prog ops Q rest (a.put o.dst v') w'):wpList Tryz.prog ops Q (o :: rest) a w:=by
 obtain ⟨i0,hi0,hz0,hz1,hz2⟩:=info_parts mS;obtain ⟨ad,c,rfl,⟨hc,hcn⟩,hl2,h5⟩:=hu;cases ad with
 | none =>
  have hy:M=[]:=by
   cases M with
   | nil=>rfl
   | cons y M=>obtain ⟨b,o,h,_⟩:=h5 0 (by simp);cases h
  subst hy;rw [hcn rfl] at hx;refine wpList_append_own_none hgd s x 89 ho B 114 i0 2 Tryz.underlying89 hi0 v L.length _ hs hown.1 hx ?_;exact h v w (by simpa using hown) (World.grownBy.refl _ _) (Below.refl _ _)
 | some ad =>
  refine wpList_append_own _ hgd s x 89 ho B 114 i0 _ 2 16 Tryz.underlying89 hi0 hz0 hz1 hz2 rfl (by decide) v L.length _ hs hown.1 ad M.length c (M.flatMap bG) hx (wE M) ?_ (zL M) (by simp [maxLen];omega) (by omega) hB ?_
  ·intro j u hj
   have hj':j<M.length*2:=by
    rw [<-wE];exact (List.getElem?_eq_some_iff.1 hj).1
   obtain ⟨b,o,h6,h7⟩:=h5 (j / 2) (by omega);cases h6;have e:=vH M (j / 2) (by omega) (j % 2) (by omega);rw [show j / 2*2+j % 2=j by omega,hj] at e;have:=h7 (j % 2) u e.symm;rw [show ({ block:=b,off:=o }:Addr).add j=⟨b,o+j,none⟩ by unfold Addr.add;split <;> simp_all];rw [show o+j=o+j / 2*2+j % 2 by omega];exact this
  ·intro v' w' h6 h7 _;exact h v' w' ⟨by rw [List.flatMap_append,List.length_append];exact h6,by simp;omega⟩ h7 (aW h7 hown.1 hB)
theorem zD {ops:Array Oper} {rest:List Oper} {o:Oper} {a:Act} {Q:Exit->Act->World->Prop} {w:World} (hgd:o.guard=none) (s x:Operand)
  (ho:o.op=.call { callee:=.builtin .append,args:=#[s,x],argTypes:=#[89,89] }) (B:Nat) (v:Value) (L:List (Int × Int)) (hs:a.eval s=v) (hown:bv w B v L)
  (g:Nat) (c:Int × Int) (hx:a.eval x=.slice (some ⟨g,0,none⟩) 1 1) (hu:w.rangeAt g 0 (bG c)) (hl:L.length<1099511627776) (hB:B<=w.heap.size)
  (h:∀ v' w',bv w' B v' (L++[c])->w.grownBy w' v.ownBlock->Below B w w'->wpList Tryz.prog ops Q rest (a.put o.dst v') w'):wpList Tryz.prog ops Q (o :: rest) a w :=
 iX hgd s x ho B v L hs hown _ [c] hx ⟨_,1,rfl,⟨by simp,fun h=>by cases h⟩,by simp,fun i hi=>⟨g,0,rfl,by
  have:i=0:=by simpa using hi
  subst this;simpa using hu⟩⟩ (by simp;omega) hB h
theorem gQ (w:World) (x0 x1:Value) (e:TypeId):(w.alloc (.cells #[x0,x1] e)).rangeAt w.heap.size 0 [x0,x1]:=by
 intro j v hj
 match j,hj with
 | 0,hj=>simp at hj;subst hj;simp
 | 1,hj=>simp at hj;subst hj;simp
theorem jq (w:World) (B:Nat) (c:Int × Int) (hB:B<=w.heap.size):bv (w.alloc (.cells #[.int .i64 c.1,.int .i64 c.2] 114)) B (.slice (some ⟨w.heap.size,0,none⟩) 1 1) [c] :=
 ⟨⟨by simp [bG],.inr ⟨w.heap.size,1,#[.int .i64 c.1,.int .i64 c.2],rfl,hB,heap_alloc_new w _,Nat.le_refl _,by unfold maxLen;omega,by simp,by simp [bG]⟩⟩,by simp⟩
theorem bv.older {w w':World} {B g:Nat} {v:Value} {L:List (Int × Int)} (h:bv w B v L) (hg:g<B) (ho:aH g w w'):bv w' B v L:=by
 obtain ⟨⟨h1,h2⟩,h3⟩:=h;refine ⟨⟨h1,?_⟩,h3⟩;rcases h2 with h2 | ⟨p,cap,cur,h4,h5,h6,h7⟩
 ·exact .inl h2
 ·refine .inr ⟨p,cap,cur,h4,h5,?_,h7⟩
  have hlt:p<w.heap.size:=by
   rcases Nat.lt_or_ge p w.heap.size with h8 | h8
   ·exact h8
   ·simp [Array.getElem?_eq_none h8] at h6
  rw [ho.block p hlt (by omega)];exact h6
theorem zc {ops:Array Oper} {o:Oper} {a:Act} {K:Act->World->Prop} {Q:Exit->Act->World->Prop} {E:Prop} {w:World} (hgd:o.guard=none) (s x:Operand)
  (ho:o.op=.call { callee:=.builtin .append,args:=#[s,x],argTypes:=#[89,89] }) (B:Nat) (v:Value) (L:List (Int × Int)) (hs:a.eval s=v) (hown:bv w B v L)
  (g:Nat) (c:Int × Int) (hx:a.eval x=.slice (some ⟨g,0,none⟩) 1 1) (hu:w.rangeAt g 0 (bG c)) (hl:L.length<1099511627776) (hB:B<=w.heap.size)
  (h:∀ v' w',bv w' B v' (L++[c])->Below B w w'->K (a.put o.dst v') w'):if Region.wanted o (yielded ops a.tmps)=true then Oper.wp Tryz.prog o a w K Q else E:=by
 have hw:Region.wanted o (yielded ops a.tmps)=true:=by simp [Region.wanted,hgd]
 rw [if_pos hw];obtain ⟨i0,hi0,hz0,hz1,hz2⟩:=info_parts mS;refine wp_append_own _ s x 89 ho B 114 i0 _ 2 16 Tryz.underlying89 hi0 hz0 hz1 hz2 rfl (by decide) v L.length _ hs hown.1 ⟨g,0,none⟩ 1 1 (bG c) hx (by simp [bG]) ?_ ?_ (by simp [maxLen];omega) (by omega) hB ?_
 ·intro j u hj;have:=hu j u hj;rw [show ({ block:=g,off:=0 }:Addr).add j=⟨g,0+j,none⟩ by unfold Addr.add;split <;> simp_all];exact this
 ·intro u hu;simp [bG] at hu;rcases hu with rfl | rfl <;> rfl
 ·intro v' w' h5 h6 _;exact h v' w' ⟨by rw [List.flatMap_append,List.length_append];simpa using h5,by simp;omega⟩ (aW h6 hown.1 hB)
def bC (c:Int × Int):Nat:=if (0<=c.1/\c.1<16777216)/\0<=c.2/\c.2<16777216 then (if c.1.toNat &&& c.2.toNat≠0 then 6 else 0) else 3
def cS:List (Int × Int)->Nat
 | []=>0
 | c :: l=>if bC c≠0 then bC c else cS l
def jl (c:Int × Int):Nat × Nat:=(c.1.toNat,c.2.toNat)
def metC (L:List (Int × Int)) (i m:Nat):Bool:=(List.range m).any fun j=>meetC (jl (L.getD i default)) (jl (L.getD j default))
def gz (L:List (Int × Int)) (m:Nat):Bool:=(List.range m).any fun i=>metC L i i
def fq (L:List (Int × Int)):Nat:=if 1024<L.length then 4 else if cS L≠0 then cS L else if gz L L.length=true then 21 else 0
theorem nd (L:List (Int × Int)) (i m:Nat):metC L i (m+1)=(metC L i m||meetC (jl (L.getD i default)) (jl (L.getD m default))):=by
 unfold metC;rw [List.range_succ,List.any_append];simp
theorem ne (L:List (Int × Int)) (m:Nat):gz L (m+1)=(gz L m||metC L m m):=by
 unfold gz;rw [List.range_succ,List.any_append];simp
theorem dV {c:Int × Int} (h:bC c=0):qR (jl c)/\c=oQ (jl c):=by
 unfold bC at h;split at h
 ·rename_i h1;split at h
  ·cases h
  ·rename_i h2;refine ⟨⟨by show c.1.toNat<_;omega,by show c.2.toNat<_;omega,Classical.byContradiction h2⟩,?_⟩;obtain ⟨a,b⟩:=c;show (a,b)=(((a.toNat:Nat):Int),((b.toNat:Nat):Int));rw [Int.toNat_of_nonneg h1.1.1,Int.toNat_of_nonneg h1.2.1]
 ·cases h
theorem dt:∀ {L:List (Int × Int)},cS L=0->∀ c∈L,bC c=0:=by
 intro L;induction L with
 | nil=>intro _ c hc;cases hc
 | cons d L ih =>
  intro h c hc;rw [cS] at h;split at h
  ·rename_i h1;exact absurd h h1
  ·rename_i h1;rcases List.mem_cons.1 hc with rfl | hc
   ·exact Classical.byContradiction h1
   ·exact ih h c hc
theorem gm:∀ {L:List (Int × Int)},(∀ c∈L,bC c=0)->cS L=0:=by
 intro L;induction L with
 | nil=>intro _;rfl
 | cons d L ih =>
  intro h;rw [cS,if_neg (by rw [h d List.mem_cons_self];simp)];exact ih fun c hc=>h c (List.mem_cons_of_mem _ hc)
theorem tH (a b:List (Int × Int)) (h:cS a=0):cS (a++b)=cS b:=by
 induction a with
 | nil=>rfl
 | cons d a ih =>
  have h1:=dt h d List.mem_cons_self;rw [List.cons_append,cS,if_neg (by rw [h1];simp)];refine ih (gm fun c hc=>dt h c (List.mem_cons_of_mem _ hc))
theorem lH (c:Nat × Nat):jl (oQ c)=c:=rfl
theorem yr {c:Nat × Nat} (h:qR c):bC (oQ c)=0:=by
 obtain ⟨h1,h2,h3⟩:=h;unfold bC;rw [if_pos (by show (0<=(c.1:Int)/\(c.1:Int)<16777216)/\0<=(c.2:Int)/\(c.2:Int)<16777216;omega)];show (if c.1 &&& c.2≠0 then 6 else 0)=0;rw [if_neg (by rw [h3];simp)]
theorem eP {l:List (Nat × Nat)} {i:Nat} (h:i<l.length):(aP l).getD i default=oQ l[i]:=by
 simp [aP,List.getD_eq_getElem?_getD,h]
theorem tN {L:List Nat} {out:List (Nat × Nat)} (hb:∀ b∈L,b<16777216) (h:cO L=some out):fq (aP out)=0:=by
 unfold fq;rw [if_neg (by rw [aK];have:=mL h;omega)]
 have h0:cS (aP out)=0:=gm fun c hc=>by
  obtain ⟨d,hd,rfl⟩:=List.mem_map.1 hc;exact yr (jd hb h d hd)
 rw [h0,if_neg (by simp),if_neg];unfold gz;rw [List.any_eq_true];rintro ⟨i,hi,h1⟩;unfold metC at h1;obtain ⟨j,hj,h2⟩:=List.any_eq_true.1 h1;rw [List.mem_range,aK] at hi;rw [List.mem_range] at hj;rw [eP hi,eP (by omega),lH,lH,pi hb h i j hj hi] at h2;cases h2
def dQ (ps:List Rw) (i:Nat):Rat:=al (ps.getD i default)
def dD (ps:List Rw) (c:Nat × Nat) (n:Nat):Rat:=wQ (dQ ps) c n
theorem gH {ps:List Rw} {c:Nat × Nat} (hs:∀ r∈ps,r.Short 3) (hok:∀ r∈ps,r.Ok):∀ n,n<=ps.length->(aj (dD ps c n)).Short (12*n+1):=by
 intro n;induction n with
 | zero=>intro _;exact de
 | succ n ih =>
  intro hn;have ih:=ih (by omega);have hx:ps.getD n default=ps[n]:=by simp [List.getD_eq_getElem?_getD,show n<ps.length by omega]
  have hr:=hok _ (List.getElem_mem (show n<ps.length by omega));have hr3:=hs _ (List.getElem_mem (show n<ps.length by omega));have e:dD ps c (n+1)=(dD ps c n*if c.1.testBit n=true then dQ ps n else 1)*if c.2.testBit n=true then 1 - dQ ps n else 1:=rfl
  have eq:dQ ps n=al ps[n]:=by unfold dQ;rw [hx]
  have h1:(aj (dD ps c n*if c.1.testBit n=true then dQ ps n else 1)).Short (12*n+4):=by
   split
   ·have h:=gT (dc (dD ps c n)) hr ih hr3 (by omega) (by omega);rw [aA,<-eq] at h;exact ⟨Nat.le_trans h.1 (by omega),Nat.le_trans h.2 (by omega)⟩
   ·rw [Rat.mul_one];exact ⟨Nat.le_trans ih.1 (by omega),Nat.le_trans ih.2 (by omega)⟩
  have h2:(aj (1 - dQ ps n)).Short 5:=by
   have h3:=fK hr hr3 (by omega);have h:=gS (dc ((1:Int):Rat)) (dc (- al ps[n])) de h3 (by omega) (by omega);rw [aA,aA,<-eq,<-Rat.sub_eq_add_neg] at h;exact h
  rw [e];generalize (dD ps c n*if c.1.testBit n=true then dQ ps n else 1)=X at *;split
  ·have h:=gT (dc X) (dc (1 - dQ ps n)) h1 h2 (by omega) (by omega);rw [aA,aA] at h;exact ⟨Nat.le_trans h.1 (by omega),Nat.le_trans h.2 (by omega)⟩
  ·rw [Rat.mul_one];exact ⟨Nat.le_trans h1.1 (by omega),Nat.le_trans h1.2 (by omega)⟩
def bd (ps:List Rw) (l:List (Nat × Nat)) (k:Nat):Rat:=ze (dQ ps) ps.length (l.take k)
theorem vd (q:Nat->Rat) (n:Nat) (l:List (Nat × Nat)) (c:Nat × Nat):ze q n (l++[c])=ze q n l+wQ q c n:=by
 unfold ze;rw [List.foldl_append];rfl
theorem iT {ps:List Rw} {l:List (Nat × Nat)} {k:Nat} (h:k<l.length):bd ps l (k+1)=bd ps l k+dD ps l[k] ps.length:=by
 unfold bd dD;rw [List.take_succ_eq_append_getElem h,vd]
theorem kH {ps:List Rw} {l:List (Nat × Nat)} (hs:∀ r∈ps,r.Short 3) (hok:∀ r∈ps,r.Ok) (hp:ps.length<=30):∀ k,k<=l.length->(aj (bd ps l k)).Short (362*k+1):=by
 intro k;induction k with
 | zero=>intro _;exact ⟨Nat.zero_le _,Nat.zero_le _⟩
 | succ k ih =>
  intro hk;have ih:=ih (by omega);have h1:=gH (c:=l[k]) hs hok ps.length (Nat.le_refl _);have h:=gS (dc (bd ps l k)) (dc (dD ps l[k] ps.length)) ih h1 (by omega) (by omega);rw [aA,aA] at h;rw [iT (by omega)];exact ⟨Nat.le_trans h.1 (by omega),Nat.le_trans h.2 (by omega)⟩
end Go.Proofs.YtofibjflkebkpaaGreatDoor
