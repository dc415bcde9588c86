import Derived.WalkKit
import Derived.WalkSpells
import Derived.WalkLawsBesides
import Derived.Deep.QuietTactic
import Derived.BigQuiet
import Derived.Lib.Hide
import Derived.Shelf.Abstract
import Derived.Deep.RegionWith
import Derived.Laws.AppendOwnNone
import Derived.Lib.AppendZerosOnto
import Derived.Lib.SliceRun
import Derived.Lib.SlicesCompact
import Derived.Shelf.SlSortCmp.NoneTotal
import Derived.Maps.OwnOps
import Derived.Maps.OwnSet
import Derived.Maps.Views
import Derived.Deep.MidRow
import Derived.Deep.RegionHeld3
import Derived.Deep.AppendLies
import Derived.Deep.RegionLaw
import Derived.IntWalk
import Derived.StillTailTactics
import Derived.RegionTactic
import Derived.BigRegion
import Derived.ChangeAlike
import Derived.Sort.LotD2
import Derived.Sort.LotA
import Derived.Shelf.SlSortCmp.PdqK
import Derived.Deep.DeepCutAuto
import Derived.Lib.ItoaNum
import Derived.Deep.LoopGhost
import Derived.Test.YtofibjflkebkpaaGreatDoorEG3
import Derived.Test.YtofibjflkebkpaaGreatDoorEG2
import Derived.Test.YtofibjflkebkpaaGreatDoorEG1
import Derived.ProofKit
import Derived.OpenShut
import Derived.SizedLaws
import Derived.Lib.SmallJoins
import Derived.Deep.Slices
import Derived.Deep.Fields
import Derived.Deep.Strs
import Derived.Carry
import Derived.Test.YtofibjflkebkpaaGreatDoorShelf
set_option maxRecDepth 100000
set_option maxHeartbeats 16000000
namespace Go.Proofs.YtofibjflkebkpaaGreatDoor
open Go.RowKit
theorem vK (c:Nat):∀ u∈aX c,u.oneCell'=true:=fun u hu=>by simp [aX] at hu;rcases hu with rfl | rfl | rfl <;> rfl
theorem AA (L:List Nat):∀ u∈L.flatMap aX,u.oneCell'=true:=fun u hu=>by
 obtain ⟨c,_,h⟩:=List.mem_flatMap.1 hu;exact vK c u h
theorem zT (b o j:Nat):(⟨b,o,none⟩:Addr).add j=⟨b,o+j,none⟩:=by unfold Addr.add;split <;> simp_all
theorem wP {ops:Array Oper} {rest:List Oper} {o:Oper} {a:Act} {Q:Exit->Act->World->Prop} {w:World} (hgd:o.guard=none) (s x:Operand)
  (ho:o.op=.call { callee:=.builtin .append,args:=#[s,x],argTypes:=#[93,93] }) (B:Nat) (v:Value) (L:List Nat) (hs:a.eval s=v) (hown:aK w B v L)
  (ad:Addr) (n c:Nat) (M:List Nat) (hx:a.eval x=.slice (some ad) n c) (hu:dv w (.slice (some ad) n c) M) (hl:L.length+M.length<=10000) (hB:B<=w.heap.size)
  (h:∀ v' w',aK w' B v' (L++M)->Below B w w'->wpList Tryz.prog ops Q rest (a.put o.dst v') w'):wpList Tryz.prog ops Q (o :: rest) a w:=by
 obtain ⟨i0,hi0,hz0,hz1,hz2⟩:=info_parts sD;obtain ⟨a',c',h1,h2,h3,h4,h5⟩:=hu;cases h1;refine wpList_append_own _ hgd s x 93 ho B 99 i0 _ 3 24 Tryz.underlying93 hi0 hz0 hz1 hz2 rfl (by decide) v L.length _ hs hown.1 ad M.length c (M.flatMap aX) hx (oq M) ?_ (AA M) (by simp [maxLen];omega) (by omega) hB ?_
 ·intro j u hj
  have hj':j<M.length*3:=by
   rw [<-oq];exact (List.getElem?_eq_some_iff.1 hj).1
  obtain ⟨b,o,h6,h7⟩:=h5 (j / 3) (by omega);cases h6;have e:=sv M (j / 3) (by omega) (j % 3) (by omega);rw [show j / 3*3+j % 3=j by omega,hj] at e;have:=h7 (j % 3) u e.symm;rw [zT];rw [show o+j=o+j / 3*3+j % 3 by omega];exact this
 ·intro v' w' h6 h7 _;refine h v' w' ⟨by rw [List.flatMap_append,List.length_append];exact h6,by simp;omega,fun c hc=>?_⟩ (bf h7 hown.1 hB);rcases List.mem_append.1 hc with hc | hc
  ·exact hown.2.2 c hc
  ·exact h4 c hc
theorem vA (w:World) (B:Nat) (hB:B<=w.heap.size):aK (w.alloc (.cells #[] 99)) B (.slice (some ⟨w.heap.size,0,none⟩) 0 0) [] :=
 ⟨⟨by simp,.inr ⟨w.heap.size,0,#[],rfl,hB,heap_alloc_new w _,Nat.le_refl _,by unfold maxLen;omega,by simp,by simp⟩⟩,by simp,by simp⟩
theorem uA (v:Value) (L:List Nat) (w:World) (hv:dv w v L) :
  Calls Tryz.prog 186 #[v] w fun e w'=>(∃ v',e=.returned v'/\aK w' w.heap.size v' L)/\af w w':=by
 have HV:=ae hv;obtain ⟨sa,c,rfl,⟨_,hn0⟩,hl,_⟩:=hv;cases sa with
 | none =>
  have hc0:=hn0 rfl;subst hc0
  have hL0:L=[]:=by
   obtain ⟨_,_,h1,_,_,_,h5⟩:=HV.out;cases L with
   | nil=>rfl
   | cons x l =>
    obtain ⟨b,o,h6,_⟩:=h5 0 (by simp);injection h1 with h1
    rw [h6] at h1;cases h1
  subst hL0;have hnl:∀ w:World,(binOp .eql 93 (.slice none 0 0) (.slice none 0 0)).run Tryz.prog w=.ok (.bool true) w:=fun w=>Lib.run_eql_slice_nil w 93 99 none 0 0 0 0 Tryz.underlying93
  clear hn0 hl;show Calls _ _ #[.slice none 0 0] _ _;go_enter Tryz.func186,Tryz.ntmps186;go_wp2;go_ret;exact ⟨⟨_,rfl,aK.nil _ _⟩,af.refl _⟩
 | some ad =>
  obtain ⟨n,hn⟩:∃ n,n=L.length:=⟨_,rfl⟩;have HV2:Hid (dv w (.slice (some ad) n c) L):=ae (by rw [hn];exact HV.out);rw [<-hn] at hl⊢;have HN:=ae hn;clear hn hn0 HV;have hnl:∀ w:World,(binOp .eql 93 (.slice (some ad) n c) (.slice none 0 0)).run Tryz.prog w=.ok (.bool false) w:=fun w=>Lib.run_eql_slice_nil w 93 99 (some ad) n c 0 0 Tryz.underlying93
  go_enter Tryz.func186,Tryz.ntmps186;go_wp2_with (at_builtin;refine wP rfl _ _ rfl w.heap.size _ [] rfl (vA w _ (Nat.le_refl _)) ad n c L rfl (HV2.out.kept ((af.refl _).alloc _)) (by simp;have:=HN.out;omega) (by simp) ?_;intro v7 w7 hown7 hb7;have O7:=ae hown7;have HB7:=ae hb7;clear hown7 hb7);go_ret;exact ⟨⟨_,rfl,O7.out⟩,((af.refl _).alloc _).app HB7.out⟩
def DecidesR (g:Nat) (lb:Array Value) (p:Nat->Bool) (w:World):Prop :=
 ∀ (W:World) (x:Nat),af w W->aF 152 x->Calls Tryz.prog g (#[cR x]++lb) W fun e W'=>e=.returned (.bool (p x))/\af W W'
theorem u_ (g:Nat) (lb:Array Value) (eg:∀ args w,(callFunc g args).run Tryz.prog w=.ok (.enter g args) w) (p:Nat->Bool) (v:Value) (L:List Nat) (w:World)
  (hp:DecidesR g lb p w) (hv:dv w v L) :
  Calls Tryz.prog 242 #[v,.func (.func g) #[] lb] w fun e w'=>(∃ n:Int,e=.returned (.int .i64 n)/\(decide (0<=n)=L.any p))/\af w w':=by
 obtain ⟨a,c,rfl,⟨hc,_⟩,hl,hlt,hx⟩:=hv;obtain ⟨n,hn⟩:∃ n,n=L.length:=⟨_,rfl⟩;have hbig:n<=10000:=by omega
 rw [<-hn];have HX:=ae hx;have HN:=ae hn;have HP:=ae hp;have HLT:=ae hlt;clear hx hn hp hl hc hlt;go_enter Tryz.func242,Tryz.ntmps242;go_wp2;go_loopg [8] n (fun kx i wr=>∃ k:Nat,k<=n/\i=.int .i64 k/\n - k<=kx/\Hid (∀ x∈L.take k,p x=false)/\Hid (af w wr))
 case atStart=>exact ⟨0,Nat.zero_le _,rfl,by omega,ae (by simp),ae (af.refl _)⟩
 case round =>
  obtain ⟨k,hk,rfl,hkx,HF,HK⟩:=hrel;by_cases hlt:k<n
  ·have hkl:k<L.length:=by have:=HN.out;omega
   obtain ⟨b,o,rfl,hrg⟩:=HX.out k hkl;have hrg2:=kn hrg HK.out;have hxl:=HLT.out L[k] (List.getElem_mem _);obtain ⟨x,hxx⟩:∃ x,x=L[k]:=⟨_,rfl⟩;rw [<-hxx] at hrg2 hxl;have HXX:=ae hxx;have HRG:Hid (wr.rangeAt b (o+k*3) [.int .i64 (ck x),.int .u64 (ce x),.int .u64 (bT x)]):=ae hrg2;have HC:Hid (∀ W,af w W->Calls Tryz.prog g (#[.agg #[.int .i64 (ck x),.int .u64 (ce x),.int .u64 (bT x)]]++lb) W fun e W'=>e=.returned (.bool (p x))/\af W W'):=ae fun W hk=>HP.out W x hk hxl
   have hkn:(k:Int)<(n:Int):=by omega
   obtain ⟨z0,hz0⟩:∃ z,z=ck x:=⟨_,rfl⟩;obtain ⟨z1,hz1⟩:∃ z,z=ce x:=⟨_,rfl⟩;obtain ⟨z2,hz2⟩:∃ z,z=bT x:=⟨_,rfl⟩;rw [<-hz0,<-hz1,<-hz2] at HRG HC;clear hrg hrg2 hxx hxl hz0 hz1 hz2;cases hq:p x with
   | true =>
    rw [hq] at HC;have HQ:=ae hq;clear hq;go_wp2_with (first | (with_reducible refine wpList_load_mid rfl 99 _ rfl b (o+k*3) rfl _ _ HRG.out Tryz.underlying99 rfl (by kernel_rfl) ?_) | (go_at_fn g;refine (HC.out _ HK.out).mono ?_;rintro e w' ⟨rfl,hK2⟩));go_ret;refine ⟨⟨k,rfl,?_⟩,HK.out.trans hK2⟩
    have:L.any p=true:=List.any_eq_true.2 ⟨x,by rw [HXX.out];exact List.getElem_mem _,HQ.out⟩
    rw [this];simp
   | false =>
    rw [hq] at HC;have HQ:=ae hq;clear hq;go_wp2_with (first | (with_reducible refine wpList_load_mid rfl 99 _ rfl b (o+k*3) rfl _ _ HRG.out Tryz.underlying99 rfl (by kernel_rfl) ?_) | (go_at_fn g;refine (HC.out _ HK.out).mono ?_;rintro e w' ⟨rfl,hK2⟩));go_roundg (n - (k+1))
    case measure=>omega
    case rel =>
     refine ⟨k+1,by omega,by go_num,Nat.le_refl _,ae ?_,ae (HK.out.trans hK2)⟩;intro y hy;rw [List.take_succ_eq_append_getElem hkl] at hy;rcases List.mem_append.1 hy with hy | hy
     ·exact HF.out y hy
     ·simp at hy;rw [hy,<-HXX.out];exact HQ.out
  ·go_wp2;go_ret;refine ⟨⟨-1,rfl,?_⟩,HK.out⟩;have hh:=HF.out;rw [List.take_of_length_le (by have:=HN.out;omega)] at hh
   have:L.any p=false:=by rw [List.any_eq_false];intro y hy;simp [hh y hy]
   rw [this];rfl
theorem AH (g:Nat) (lb:Array Value) (eg:∀ args w,(callFunc g args).run Tryz.prog w=.ok (.enter g args) w) (p:Nat->Bool) (v:Value) (L:List Nat) (w:World)
  (hp:DecidesR g lb p w) (hv:dv w v L) :
  Calls Tryz.prog 190 #[v,.func (.func g) #[] lb] w fun e w'=>e=.returned (.bool (L.any p))/\af w w':=by
 have h:=u_ g lb eg p v L w hp hv;have H:=ae h;clear h hp hv eg;obtain ⟨r,hr⟩:∃ r,r=L.any p:=⟨_,rfl⟩;rw [<-hr] at H⊢;clear hr;go_enter Tryz.func190,Tryz.ntmps190;go_wp2_with (go_at_call 242;refine H.out.mono ?_;rintro e w' ⟨⟨n,rfl,hn⟩,hK⟩;have HN:=ae hn;clear hn);go_ret;exact ⟨by rw [<-HN.out];rfl,hK⟩
theorem rb (c B:Nat) (w:World) (hc:aF 152 c) (h0:w.cell? ⟨B,0,none⟩=some (.int .i64 (ck c))) (h1:w.cell? ⟨B,1,none⟩=some (.int .u64 (ce c))) (h2:w.cell? ⟨B,2,none⟩=some (.int .u64 (bT c))) :
  DecidesR 191 #[.pointer (some ⟨B,0,none⟩)] (fun t=>subN t c) w:=by
 intro W x hK hx;show Calls Tryz.prog _ _ W fun e W'=>e=.returned (.bool (subN x c))/\af W W'
 have h0':=hK.cell h0;have h1':=hK.cell h1;have h2':=hK.cell h2;have HP:Hid (∀ W',Calls Tryz.prog 192 #[cR x,cR c] W' fun e w'=>e=.returned (.bool (subN x c))/\∃ C O,w'=(W'.alloc C).alloc O):=ae fun W'=>zf hx hc W'
 have hbl:B<W.heap.size:=by
  by_cases h:B<W.heap.size
  ·exact h
  ·simp [World.cell?,Array.getElem?_eq_none (Nat.le_of_not_lt h)] at h0'
 unfold cR at *;generalize subN x c=q at *;generalize ck c=y0 at *;generalize ce c=y1 at *;generalize bT c=y2 at *;generalize ck x=z0 at *;generalize ce x=z1 at *;generalize bT x=z2 at *;clear h0 h1 h2 hK hx hc;show Calls Tryz.prog 191 #[.agg #[.int .i64 z0,.int .u64 z1,.int .u64 z2],.pointer (some ⟨B,0,none⟩)] W _;go_enter Tryz.func191,Tryz.ntmps191;go_wp2_with (go_at_call 192;refine (HP.out _).mono ?_;rintro e w' ⟨rfl,C,O,rfl⟩);go_ret;exact ⟨rfl,(((af.refl _).alloc _).alloc _).alloc _⟩
theorem CP {ops:Array Oper} {rest:List Oper} {o:Oper} {a:Act} {Q:Exit->Act->World->Prop} {w:World} (hgd:o.guard=none) (s x:Operand)
  (ho:o.op=.call { callee:=.builtin .append,args:=#[s,x],argTypes:=#[93,93] }) (B:Nat) (v:Value) (L:List Nat) (hs:a.eval s=v) (hown:aK w B v L)
  (g c:Nat) (hx:a.eval x=.slice (some ⟨g,0,none⟩) 1 1) (hu:w.rangeAt g 0 (aX c)) (hc:aF 152 c) (hl:L.length<10000) (hB:B<=w.heap.size)
  (h:∀ v' w',aK w' B v' (L++[c])->Below B w w'->wpList Tryz.prog ops Q rest (a.put o.dst v') w'):wpList Tryz.prog ops Q (o :: rest) a w :=
 wP hgd s x ho B v L hs hown ⟨g,0,none⟩ 1 1 [c] hx ⟨_,1,rfl,⟨by simp,fun h=>by cases h⟩,by simp,by simpa using hc,fun i hi=>⟨g,0,rfl,by
  have:i=0:=by simpa using hi
  subst this;simpa using hu⟩⟩ (by simp;omega) hB h
theorem yx (l:List Nat) (k:Nat) (h:k<l.length):gV (l.take (k+1))=aS (gV (l.take k)) l[k]:=by
 unfold gV;rw [List.take_succ_eq_append_getElem h,List.foldl_append];rfl
theorem yV (w:World) (x0 x1 x2:Value) (e:TypeId):(w.alloc (.cells #[x0,x1,x2] e)).rangeAt w.heap.size 0 [x0,x1,x2]:=by
 intro j v hj
 match j,hj with
 | 0,hj=>simp at hj;subst hj;simp
 | 1,hj=>simp at hj;subst hj;simp
 | 2,hj=>simp at hj;subst hj;simp
theorem oj (v:Value) (L:List Nat) (w:World) (hv:dv w v L) (hl:L.length<=4097) :
  Calls Tryz.prog 130 #[v] w fun e w'=>(∃ v' M,e=.returned v'/\aK w' w.heap.size v' M/\M.Perm (aT L))/\af w w':=by
 have HCL:=ae (uA v L w hv);have eg2:∀ args w,(callFunc 191 args).run Tryz.prog w=.ok (.enter 191 args) w:=enters_of Tryz.func191 (by kernel_rfl) rfl;have EG2:=ae eg2;have hsh:∃ a n c,v=.slice a n c:=by obtain ⟨a,c,h⟩:=hv.shape;exact ⟨a,_,c,h⟩
 obtain ⟨a,nn,c,rfl⟩:=hsh;clear hv eg2;go_enter Tryz.func130,Tryz.ntmps130;go_wp2_with fail;refine HCL.out.mono ?_;rintro e w1 ⟨⟨v1,rfl,ho1⟩,hk1⟩;have HS:=ae (ph w.heap.size v1 L w1 ho1 hk1.size);obtain ⟨a1,c1,hv1⟩:=ho1.at.shape;obtain ⟨n,hn⟩:∃ n,n=L.length:=⟨_,rfl⟩;rw [<-hn] at hv1 hl;subst hv1;have HN:=ae hn;have HK1:=ae hk1;clear hn ho1 hk1;go_wp2_with fail;refine HS.out.mono ?_;rintro e w2 ⟨rfl,M,hperm,hpair,ho2,hb2⟩;have hk2:af w w2:=HK1.out.app hb2;have HK2:=ae hk2;have HPM:Hid (M.Perm L/\M.Pairwise (fun a b=>pc a<=pc b)):=⟨hperm,hpair⟩;have hml:M.length=n:=by rw [hperm.length_eq];exact HN.out.symm
 have HML:=ae hml;have HM:Hid (∀ W,af w2 W->dv W (.slice a1 n c1) M):=ae fun W hk=>ho2.at.kept hk
 clear hperm hpair ho2 hb2 hk2 hml HS;go_wp2;go_loopg [3,12] n (fun kx s3 s12 wr=>∃ (k:Nat) (vo:Value),s3=vo/\s12=.int .i64 k/\k<=n/\n - k<=kx/\Hid (aK wr w2.heap.size vo (gV (M.take k)))/\Hid (af w2 wr))
 case atStart=>exact ⟨0,_,rfl,rfl,Nat.zero_le _,by omega,ae (aK.nil _ _),ae (af.refl _)⟩
 case round =>
  obtain ⟨k,vo,rfl,rfl,hk,hkx,HO,HK⟩:=hrel;have hsz:=HK.out.size;obtain ⟨ao,co,hvo⟩:=HO.out.at.shape;obtain ⟨mo,hmo⟩:∃ mo,mo=(gV (M.take k)).length:=⟨_,rfl⟩;rw [<-hmo] at hvo;subst hvo;by_cases hlt:k<n
  ·have hkl:k<M.length:=by have:=HML.out;omega
   have hmo9:mo<=k:=by rw [hmo];refine Nat.le_trans (sM _ []) ?_;simp;omega
   obtain ⟨b,o,rfl,hrg⟩:∃ b o,a1=some ⟨b,o,none⟩/\wr.rangeAt b (o+k*3) (aX M[k]):=by
    obtain ⟨a',c',h1,_,_,_,h5⟩:=HM.out wr HK.out;injection h1 with h1 h2 h3
    subst h1;exact h5 k hkl
   have hxl:aF 152 M[k]:=by obtain ⟨_,_,_,_,_,h4,_⟩:=HM.out wr HK.out;exact h4 _ (List.getElem_mem _)
   have hstep:=yx M k hkl;obtain ⟨x,hxx⟩:∃ x,x=M[k]:=⟨_,rfl⟩;rw [<-hxx] at hrg hxl hstep;obtain ⟨out,hout⟩:∃ out,out=gV (M.take k):=⟨_,rfl⟩;rw [<-hout] at hstep HO hmo;have HST:=ae hstep;have HXL:=ae hxl
   have HHAS:Hid (∀ W,af wr W->W.cell? ⟨wr.heap.size,0,none⟩=some (.int .i64 (ck x))->W.cell? ⟨wr.heap.size,1,none⟩=some (.int .u64 (ce x))->W.cell? ⟨wr.heap.size,2,none⟩=some (.int .u64 (bT x)) ->
    Calls Tryz.prog 190 #[.slice ao mo co,.func (.func 191) #[] #[.pointer (some ⟨wr.heap.size,0,none⟩)]] W fun e w'=>e=.returned (.bool (out.any fun t=>subN t x))/\af W w'):=ae fun W hk h0 h1 h2 =>
     AH 191 #[.pointer (some ⟨wr.heap.size,0,none⟩)] EG2.out (fun t=>subN t x) _ out W (rb x wr.heap.size W hxl h0 h1 h2) ((HO.out.kept hk).at)
   have HRC:Hid (aX x=[.int .i64 (ck x),.int .u64 (ce x),.int .u64 (bT x)]):=rfl;unfold aX at hrg;generalize ck x=z0 at *;generalize ce x=z1 at *;generalize bT x=z2 at *;have HRG:=ae hrg;have HMO:=ae hmo;have hkn:(k:Int)<(n:Int):=by omega
   clear hrg hxl hstep hxx hout hmo;cases hq:out.any (fun t=>subN t x) with
   | true =>
    have HQ:=ae hq;rw [hq] at HHAS;clear hq;go_wp2_with (first | (with_reducible refine wpList_load_mid rfl 99 _ rfl b (o+k*3) rfl _ _ HRG.out Tryz.underlying99 rfl (by kernel_rfl) ?_) | (go_at_call 190;refine (HHAS.out _ ((af.refl _).alloc _) (by simp) (by simp) (by simp)).mono ?_;rintro e w3 ⟨rfl,hk3⟩));go_roundg (n - (k+1))
    case measure=>omega
    case rel=>exact ⟨k+1,_,rfl,by go_num,by omega,Nat.le_refl _,ae (by rw [HST.out,aS,HQ.out];exact HO.out.kept (((af.refl _).alloc _).trans hk3)),ae (HK.out.trans (((af.refl _).alloc _).trans hk3))⟩
   | false =>
    have HQ:=ae hq;rw [hq] at HHAS;clear hq;go_wp2_with (first | (with_reducible refine wpList_load_mid rfl 99 _ rfl b (o+k*3) rfl _ _ HRG.out Tryz.underlying99 rfl (by kernel_rfl) ?_) | (go_at_call 190;refine (HHAS.out _ ((af.refl _).alloc _) (by simp) (by simp) (by simp)).mono ?_;rintro e w3 ⟨rfl,hk3⟩;have b0:=hk3.cell (p:=⟨wr.heap.size,0,none⟩) (v:=.int .i64 z0) (by simp);have b1:=hk3.cell (p:=⟨wr.heap.size,1,none⟩) (v:=.int .u64 z1) (by simp);have b2:=hk3.cell (p:=⟨wr.heap.size,2,none⟩) (v:=.int .u64 z2) (by simp);have hs3:=hk3.size;have HO3:=ae (HO.out.kept (((af.refl _).alloc _).trans hk3));have HK3:=ae (HK.out.trans (((af.refl _).alloc _).trans hk3));clear hk3) | (at_builtin;refine CP rfl _ _ rfl w2.heap.size _ out rfl (HO3.out.kept ((af.refl _).alloc _)) w3.heap.size x rfl (by rw [HRC.out];exact yV w3 _ _ _ _) HXL.out (by have:=HMO.out;omega) (by simp at hs3⊢;omega) ?_;intro v4 w4 hown4 hb4;have HO4:=ae hown4;have HB4:=ae hb4;clear hown4 hb4));go_roundg (n - (k+1))
    case measure=>omega
    case rel=>exact ⟨k+1,v4,rfl,by go_num,by omega,Nat.le_refl _,ae (by rw [HST.out,aS,HQ.out];exact HO4.out),ae ((HK3.out.alloc _).app HB4.out)⟩
  ·have hke:k=n:=by omega
   have HF:Hid (aK wr w2.heap.size (.slice ao mo co) (gV M)):=ae (by have h:=HO.out;rw [hke,<-HML.out,List.take_length] at h;exact h);clear hke hmo;go_wp2;go_ret;exact ⟨⟨_,gV M,rfl,HF.out.mono HK2.out.size,vd HPM.out.1 HPM.out.2⟩,HK2.out.trans HK.out⟩
structure fm (V T:Nat) (f:Fm) (L st:List Nat) (m:Nat):Prop where
 le:m<=f.nodes.length
 lt:∀ r∈L,aF (24+m) r
 mkd:∀ r∈L,bZ V (aQ V T f.nodes) r
 len:L.length<=1024
 run:∃ R:List Nat,L.Perm R/\dx V T f.nodes=(dD V f.nodes m R).map fun p=>(p.1,st++p.2)
theorem fm.start {V T:Nat} {f:Fm} (hok:Ok f V T):fm V T f [cond V T] [] f.nodes.length:=by
 have hT:=hok.tlt;refine ⟨Nat.le_refl _,fun r hr=>?_,fun r hr=>?_,by simp,⟨[cond V T],.refl _,?_⟩⟩
 ·simp at hr;subst hr;exact dC (by omega) hok.v24
 ·simp at hr;subst hr;refine iT (by omega) hok.v24 ?_;unfold aQ;refine eR V f.nodes _ _ _ ?_;rw [List.getD_eq_getElem?_getD,Int.toNat_natCast,List.getElem?_set_self (by simp;omega)];rfl
 ·unfold dx;cases dD V f.nodes f.nodes.length [cond V T] with
  | none=>rfl
  | some p=>rfl
theorem fm.done {V T:Nat} {f:Fm} {L st:List Nat} {m:Nat} (h:fm V T f L st m) (hn:∀ c∈L,∀ j,c.testBit (24+j)=true->False):∃ R,dx V T f.nodes=some (R,st)/\L.Perm R:=by
 obtain ⟨R,hp,hr⟩:=h.run;refine ⟨R,?_,hp⟩;rw [hr,qD V f.nodes 0 R m (Nat.zero_le _) fun j _ _=>?_]
 ·show some (R,st++[])=_;rw [List.append_nil]
 ·rw [List.any_eq_false];intro r hr hb;exact hn r (hp.mem_iff.2 hr) j hb
theorem fm.at {V T:Nat} {f:Fm} {L st:List Nat} {m i:Nat} (h:fm V T f L st m) (hi:∃ c∈L,c.testBit (24+i)=true) (hmax:∀ c∈L,∀ j,c.testBit (24+j)=true->j<=i) :
  i<m/\(aQ V T f.nodes).getD (V+i) false=true/\∃ R:List Nat,L.Perm R/\R.any (fun r=>r.testBit (24+i))=true/\dx V T f.nodes=(dD V f.nodes (i+1) R).map fun p=>(p.1,st++p.2):=by
 obtain ⟨c,hc,hb⟩:=hi;have him:i<m:=by have:=h.lt c hc _ hb;omega
 obtain ⟨R,hp,hr⟩:=h.run;refine ⟨him,h.mkd c hc i hb,R,hp,List.any_eq_true.2 ⟨c,hp.mem_iff.1 hc,hb⟩,?_⟩;rw [hr,qD V f.nodes (i+1) R m (by omega) fun j h1 _=>?_];rw [List.any_eq_false];intro r hr hb;have:=hmax r (hp.mem_iff.2 hr) j hb;omega
theorem fm.full {V T:Nat} {f:Fm} {L st:List Nat} {m i:Nat} (h:fm V T f L st m) (hi:∃ c∈L,c.testBit (24+i)=true) (hmax:∀ c∈L,∀ j,c.testBit (24+j)=true->j<=i)
  (hl:4096<(cZ V (f.nodes.getD i bB) i L).length):dx V T f.nodes=none:=by
 obtain ⟨_,_,R,hp,ha,hr⟩:=h.at hi hmax;rw [hr]
 conv=>lhs;unfold dD
 rw [if_pos ha,if_neg (by rw [<-(gk (V:=V) (i:=i) (x:=f.nodes.getD i bB) hp).length_eq];omega)];rfl
theorem fm.many {V T:Nat} {f:Fm} {L M st:List Nat} {m i:Nat} (h:fm V T f L st m) (hi:∃ c∈L,c.testBit (24+i)=true) (hmax:∀ c∈L,∀ j,c.testBit (24+j)=true->j<=i)
  (hM:M.Perm (aT (cZ V (f.nodes.getD i bB) i L))) (hl:1024<M.length):dx V T f.nodes=none:=by
 obtain ⟨_,_,R,hp,ha,hr⟩:=h.at hi hmax;have he:=mh (gk (V:=V) (i:=i) (x:=f.nodes.getD i bB) hp);rw [hr]
 conv=>lhs;unfold dD
 rw [if_pos ha];split
 ·rw [if_neg (by rw [<-he,<-hM.length_eq];omega)];rfl
 ·rfl
theorem fm.next {V T:Nat} {f:Fm} (hok:Ok f V T) {L M st:List Nat} {m i:Nat} (h:fm V T f L st m) (hi:∃ c∈L,c.testBit (24+i)=true) (hmax:∀ c∈L,∀ j,c.testBit (24+j)=true->j<=i)
  (hl4:(cZ V (f.nodes.getD i bB) i L).length<=4096) (hM:M.Perm (aT (cZ V (f.nodes.getD i bB) i L))) (hl:M.length<=1024):fm V T f M (st++[M.length]) i:=by
 obtain ⟨him,hmk,R,hp,ha,hr⟩:=h.at hi hmax;have hle:=h.le;have hil:i<f.nodes.length:=by omega
 have hnd:f.nodes.getD i bB=f.nodes[i]:=by simp [List.getD_eq_getElem?_getD,hil]
 have hmem:∀ r∈M,r∈cZ V (f.nodes.getD i bB) i L:=fun r hr=>gx (hM.mem_iff.1 hr)
 refine ⟨by omega,fun r hr=>?_,fun r hr=>?_,hl,⟨aT (cZ V (f.nodes.getD i bB) i R),?_,?_⟩⟩
 ·refine oX hok.v24 (by rw [hnd];exact hok.args i hil) (fun c hc j hj=>?_) r (hmem r hr);by_cases h24:j<24
  ·omega
  ·have:=hmax c hc (j - 24) (by rw [show 24+(j - 24)=j by omega];exact hj);omega
 ·exact mL hok.v24 h.mkd (fun hk a ha=>by rw [hnd] at ha;exact ⟨(hok.args i hil a ha).1,dh V T f hok i hil hk a ha⟩) r (hmem r hr)
 ·rw [<-mh (gk (V:=V) (i:=i) (x:=f.nodes.getD i bB) hp)];exact hM
 ·rw [hr];have he:=mh (gk (V:=V) (i:=i) (x:=f.nodes.getD i bB) hp)
  conv=>lhs;unfold dD
  rw [if_pos ha,if_pos (by rw [<-(gk (V:=V) (i:=i) (x:=f.nodes.getD i bB) hp).length_eq];exact hl4),if_pos (by rw [<-he,<-hM.length_eq];exact hl),<-he,<-hM.length_eq];cases dD V f.nodes i (aT (cZ V (f.nodes.getD i bB) i L)) with
  | none=>rfl
  | some p=>show some _=some _;simp
theorem xW (V:Nat) (x:Nd) (i:Nat) (L:List Nat) (k:Nat) (h:k<L.length):cZ V x i (L.take (k+1))=cZ V x i (L.take k)++uN V x i L[k]:=by
 unfold cZ;rw [List.take_succ_eq_append_getElem h,List.flatMap_append];simp
def F' (V T:Nat) (nodes:List Nd):Option (List Nat):=(Ft V T nodes).map fun l=>if T<V then [2^T] else l.getD (T - V) []
theorem zY (v:Value) (w:World):(Instr.typeAssert (.iface 60 v) 31 60 true).run Tryz.prog w=.ok (.tuple #[v,.bool true]) w:=by kernel_rfl
def rf:List Nd:=[⟨3,0,[0,1]⟩,⟨3,0,[0,2]⟩,⟨2,0,[3,4]⟩]
theorem cd {w:World} {cs:Array Value} {e:TypeId} {g:Nat} (hg:g=w.heap.size) {j:Nat} {u:Value} (h:cs[j]?=some u):(w.alloc (.cells cs e)).cell? ⟨g,j,none⟩=some u:=by
 subst hg;simp only [World.cell?,heap_alloc_new];exact h
theorem rt {W:World} {g:Nat} {x y:Int} (h0:W.cell? ⟨g,0,none⟩=some (.int .i64 x)) (h1:W.cell? ⟨g,1,none⟩=some (.int .i64 y)):am W (.slice (some ⟨g,0,none⟩) 2 2) [x,y]:=by
 refine ⟨_,2,rfl,⟨Nat.le_refl _,fun h=>by cases h⟩,by simp,fun i hi=>⟨g,0,rfl,?_⟩⟩
 match i,hi with
 | 0,_=>simpa using h0
 | 1,_=>simpa using h1
theorem uM (w:World):Calls Tryz.prog 43 #[] w fun e w'=>(∃ v,e=.returned (.agg #[.int .i64 3,v,.int .i64 5])/\(∃ a n c,v=.slice a n c)/\aG w' v rf)/\af w w':=by
 go_enter Tryz.func43,Tryz.ntmps43;go_wp2;generalize hW:World.alloc _ (.cells #[.int .i64 3,.int .i64 0,_,.int .i64 3,.int .i64 0,_,.int .i64 2,.int .i64 0,_] 106)=W;have hk:af w W:=by rw [<-hW];exact (((((af.refl w).alloc _).alloc _).alloc _).alloc _).alloc _
 have hs:∀ (j:Nat) (u:Value),(#[.int .i64 3,.int .i64 0,.slice (some ⟨w.heap.size+1,0,none⟩) 2 2,.int .i64 3,.int .i64 0,.slice (some ⟨w.heap.size+1+1,0,none⟩) 2 2,.int .i64 2,.int .i64 0,.slice (some ⟨w.heap.size+1+1+1,0,none⟩) 2 2]:Array Value)[j]?=some u->W.cell? ⟨w.heap.size+1+1+1+1,j,none⟩=some u:=by
  intro j u h;rw [<-hW];exact cd (by simp [World.size_alloc]) h
 have h1:am W (.slice (some ⟨w.heap.size+1,0,none⟩) 2 2) [0,1]:=rt (by rw [<-hW];exact af.cell ((((af.refl _).alloc _).alloc _).alloc _) (cd (by simp [World.size_alloc]) rfl)) (by rw [<-hW];exact af.cell ((((af.refl _).alloc _).alloc _).alloc _) (cd (by simp [World.size_alloc]) rfl));have h2:am W (.slice (some ⟨w.heap.size+1+1,0,none⟩) 2 2) [0,2]:=rt (by rw [<-hW];exact af.cell (((af.refl _).alloc _).alloc _) (cd (by simp [World.size_alloc]) rfl)) (by rw [<-hW];exact af.cell (((af.refl _).alloc _).alloc _) (cd (by simp [World.size_alloc]) rfl));have h3:am W (.slice (some ⟨w.heap.size+1+1+1,0,none⟩) 2 2) [3,4]:=rt (by rw [<-hW];exact af.cell ((af.refl _).alloc _) (cd (by simp [World.size_alloc]) rfl)) (by rw [<-hW];exact af.cell ((af.refl _).alloc _) (cd (by simp [World.size_alloc]) rfl));have r0:W.cell? ⟨w.heap.size,0,none⟩=some (.int .i64 3):=by rw [<-hW];exact af.cell (((((af.refl _).alloc _).alloc _).alloc _).alloc _) (cd rfl rfl)
 have r1:W.cell? ⟨w.heap.size,1,none⟩=some (.slice (some ⟨w.heap.size+1+1+1+1,0,none⟩) 3 3):=by rw [<-hW];exact af.cell (((((af.refl _).alloc _).alloc _).alloc _).alloc _) (cd rfl rfl)
 have r2:W.cell? ⟨w.heap.size,2,none⟩=some (.int .i64 5):=by rw [<-hW];exact af.cell (((((af.refl _).alloc _).alloc _).alloc _).alloc _) (cd rfl rfl)
 refine bodyPost_ret (v:=.agg #[.int .i64 3,.slice (some ⟨w.heap.size+1+1+1+1,0,none⟩) 3 3,.int .i64 5]) (by simp [results,Tryz.results43,go_sem,r0,r1,r2]) rfl ?_;refine ⟨⟨_,rfl,⟨_,_,_,rfl⟩,_,3,rfl,⟨Nat.le_refl _,fun h=>by cases h⟩,by decide,fun i hi=>⟨_,0,rfl,?_⟩⟩,hk⟩
 match i,hi with
 | 0,_=>exact ⟨_,hs 0 _ rfl,hs 1 _ rfl,hs 2 _ rfl,h1⟩
 | 1,_=>exact ⟨_,hs 3 _ rfl,hs 4 _ rfl,hs 5 _ rfl,h2⟩
 | 2,_=>exact ⟨_,hs 6 _ rfl,hs 7 _ rfl,hs 8 _ rfl,h3⟩
def DZ:Fm:=⟨3,rf,5⟩
theorem Ah:di DZ=0:=by decide
theorem Fb:cC 3 5 DZ=true:=by decide
theorem Ec:Ok DZ 3 5:=by
 obtain ⟨V,T,h⟩:=Bn DZ Ah;have h1:(3:Int)=(V:Int):=h.vars;have h2:(5:Int)=(T:Int):=h.top;obtain rfl:V=3:=by omega
 obtain rfl:T=5:=by omega
 exact h
theorem FA:pc 0=0/\pc 1=1/\pc 2=1/\pc 3=2/\pc 4=1/\pc 5=2/\pc 6=2/\pc 7=3:=by
 have h0:pc 0=0:=by unfold pc;simp
 have h1:pc 1=1:=by unfold pc;simp [h0]
 have h2:pc 2=1:=by unfold pc;simp [h1]
 have h3:pc 3=2:=by unfold pc;simp [h1]
 have h4:pc 4=1:=by unfold pc;simp [h2]
 have h5:pc 5=2:=by unfold pc;simp [h2]
 have h6:pc 6=2:=by unfold pc;simp [h3]
 have h7:pc 7=3:=by unfold pc;simp [h3]
 exact ⟨h0,h1,h2,h3,h4,h5,h6,h7⟩
theorem z_:aQ 3 5 rf=[true,true,true,true,true,true]:=by decide
theorem Aj (k:Int) (w:World):Calls Tryz.prog 88 #[.int .i64 k,.int .i64 1,.int .i64 16] w fun e w'=>(∃ z,e=.returned (.int .i64 z))/\af w w':=by
 go_enter Tryz.func88,Tryz.ntmps88;go_wp2;all_goals (go_ret;exact ⟨⟨_,rfl⟩,af.refl _⟩)
theorem ye (v:Value) (f:Fm) (w:World) (hv:aG w v f.nodes) :
  Calls Tryz.prog 40 #[jo v f] w fun e w'=>(∃ b,e=.returned (.bool b))/\af w w':=by
 obtain ⟨a,c,rfl,_,hl,hx⟩:=hv;obtain ⟨n,hn⟩:∃ n,n=f.nodes.length:=⟨_,rfl⟩;rw [<-hn] at hl⊢;obtain ⟨vars,nodes,top⟩:=f;have HX:=ae hx;have HN:=ae hn;clear hx hn;show Calls _ _ #[.agg #[.int .i64 vars,.slice a n c,.int .i64 top]] _ _;go_enter Tryz.func40,Tryz.ntmps40;go_wp2
 all_goals first
  | (go_ret;exact ⟨by simp,(af.refl _).alloc _⟩)
  | skip
 all_goals
  go_loopw [3,4,36] (fun p q i wr=>∃ (k:Nat) (x y:Int),k<=n/\i=.int .i64 k/\p=.int .i64 x/\q=.int .i64 y/\af w wr) (fun _ _ i _=>n - (intOf i).toNat)
  case atStart=>exact ⟨0,0,0,Nat.zero_le _,rfl,rfl,rfl,(af.refl _).alloc _⟩
  case round =>
   obtain ⟨k,x,y,hk,rfl,rfl,rfl,hK⟩:=hrel;by_cases hlt:k<n
   ·obtain ⟨b,o,rfl,u,h1,h2,h3,h4⟩:=HX.out k (by have:=HN.out;omega);obtain ⟨ax,cx,rfl,_,hlx,hcx⟩:=h4;have hrange:=ae (d_ (hK.cell h1) (hK.cell h2) (hK.cell h3));clear hcx h1 h2 h3;generalize nodes[k].kind=kd at hrange;generalize nodes[k].k=kk at hrange;generalize nodes[k].args.length=na at hrange hlx;by_cases hv4:kd=4
    ·subst hv4;go_wp2_with (with_reducible refine wpList_load_mid rfl 106 _ rfl b (o+k*3) rfl _ _ hrange.out Tryz.underlying106 rfl (by kernel_rfl) ?_);have d1:(wr.alloc (.cells #[.int .i64 4,.int .i64 kk,.slice ax na cx] 106)).cell? ⟨wr.heap.size,1,none⟩=some (.int .i64 kk):=by simp
     have d2:(wr.alloc (.cells #[.int .i64 4,.int .i64 kk,.slice ax na cx] 106)).cell? ⟨wr.heap.size,2,none⟩=some (.slice ax na cx):=by simp
     go_region_held3 (fun w'=>w'.cell? ⟨wr.heap.size,1,none⟩=some (.int .i64 kk)/\w'.cell? ⟨wr.heap.size,2,none⟩=some (.slice ax na cx))
      (first | go_keep | exact ⟨hk5.cell d1,hk5.cell d2⟩)
      (first | (go_at_call 88;refine (Aj kk _).mono ?_;rintro e w5 ⟨⟨z,rfl⟩,hk5⟩))
     go_wp2;go_roundw
     case rel=>exact ⟨k+1,_,_,by omega,by simp,rfl,rfl,(hK.alloc _).trans ((af.refl _).drew.trans hk5)⟩
     case measure=>simp [intOf];omega
    ·have e4:(kd == 4)=false:=by simpa using hv4
     go_wp2_with (with_reducible refine wpList_load_mid rfl 106 _ rfl b (o+k*3) rfl _ _ hrange.out Tryz.underlying106 rfl (by kernel_rfl) ?_);go_roundw
     case rel=>exact ⟨k+1,_,_,by omega,by simp,rfl,rfl,hK.alloc _⟩
     case measure=>simp [intOf];omega
   ·go_wp2;all_goals (try go_quiet (fail))
    all_goals (try go_wp2)
    all_goals (go_ret;first | exact ⟨⟨_,rfl⟩,hK⟩ | exact ⟨.inl rfl,hK⟩ | exact ⟨.inr rfl,hK⟩)
section
open Go.RowKit Go.ChangeShapes Go.WideShapes Go.ChangeAt Go.Joins Go.Deep
theorem Fy:ownKnob Tryz.prog.godebug=none:=by kernel_rfl
theorem sH:laidOutB Tryz.prog=true:=by kernel_rfl
theorem Ag:Tryz.prog.cellsOf 41=3:=by kernel_rfl
theorem nT:Tryz.prog.cellsOf 106=3:=by kernel_rfl
theorem pO:Tryz.prog.cellsOf 3=1:=by kernel_rfl
theorem uw:Tryz.prog.cellsOf 22=1:=by kernel_rfl
theorem ut:Tryz.prog.bytesOf 106=40:=by kernel_rfl
theorem xG:Tryz.prog.bytesOf 3=8:=by kernel_rfl
theorem dY {H:Type} {P:Program} {e:TypeId}:∀ {l:List (DataW H)} {d:DataW H},d∈l->∀ n∈d.weights P e,n∈DataW.weightsAll P e l
 | d' :: r,d,hd,n,hn=>by
  simp only [DataW.weightsAll,List.mem_append];rcases List.mem_cons.1 hd with rfl | h
  ·exact .inl hn
  ·exact .inr (dY h n hn)
theorem nd (b o j:Nat):(⟨b,o,none⟩:Addr).add j=⟨b,o+j,none⟩:=by unfold Addr.add;split <;> simp_all
section
variable {H:Type} {enc:TypeId × Value->H} {W:World} {base:Nat}
theorem yj {fuel:Nat} {cs:List Value} {x:DataW H × List MemPlace} (hb:∀ n∈x.1.weights Tryz.prog 22,n<=reachBytes)
  (h:DataW.trod enc Tryz.prog W base (fun _=>true) true fuel 22 cs=some x):∃ u xs,cs=[u]/\am W u xs/\∀ z∈xs,-9223372036854775808<=z/\z<=9223372036854775807:=by
 rcases open_ints Tryz.underlying22 Tryz.underlying3 pO h with ⟨rfl,rfl⟩ | ⟨a,len,cap,zs,rfl,_,hl,hm,hz,rfl,hcell,hwz⟩
 ·exact ⟨_,[],rfl,am.nil _,by simp⟩
 ·simp only [if_true] at hz
  have hbb:=hb ((zs.take len).length*8+(zs.drop len).length*8) (by
   simp only [DataW.weights,Tryz.underlying22,xG,List.mem_cons];exact .inl (by simp [lits];omega))
  simp [reachBytes] at hbb;refine ⟨_,zs.take len,rfl,⟨some a,cap,by simp;omega,⟨by simp;omega,fun h=>by cases h⟩,by simp;omega,fun i hi=>?_⟩,fun z hz=>bounds_i64 (hwz z (List.mem_of_mem_take hz))⟩;simp only [List.length_take] at hi;have hc:=hcell i (by omega);obtain ⟨b,o,spot⟩:=a;have hspot:spot=none:=World.cell?_spot (hcell 0 (by omega));subst hspot;refine ⟨b,o,rfl,?_⟩;have e:(zs.take len)[i]'(by simp;omega)=zs.getD i 0:=by simp [List.getD_eq_getElem?_getD,show i<zs.length by omega]
  rw [e,<-hc];congr 1;by_cases h0:i=0
  ·subst h0;rfl
  ·simp [Addr.add,h0]
instance:Inhabited Nd:=⟨⟨0,0,[]⟩⟩
def Ej (x:Nd):Prop:=(-9223372036854775808<=x.kind/\x.kind<=9223372036854775807)/\(-9223372036854775808<=x.k/\x.k<=9223372036854775807)/\∀ z∈x.args,-9223372036854775808<=z/\z<=9223372036854775807
def CL (f:Fm):Prop:=(-9223372036854775808<=f.vars/\f.vars<=9223372036854775807)/\(-9223372036854775808<=f.top/\f.top<=9223372036854775807)/\∀ x∈f.nodes,Ej x
theorem vt {fuel:Nat} {cs:List Value} {x:DataW H × List MemPlace} (hb:∀ n∈x.1.weights Tryz.prog 39,n<=reachBytes)
  (h:DataW.trod enc Tryz.prog W base (fun _=>true) true fuel 39 cs=some x):∃ u xs,cs=[u]/\aG W u xs/\∀ y∈xs,Ej y:=by
 rcases open_slice Tryz.underlying39 h with ⟨rfl,rfl⟩ | ⟨a,len,cap,m,n,D,Pl,rfl,_,hl,hm,hmm,rfl,hx⟩
 ·exact ⟨_,[],rfl,⟨none,0,rfl,⟨by simp,fun _=>rfl⟩,by simp,fun i h=>by simp at h⟩,by simp⟩
 ·simp only [if_true] at hmm;have hmc:=hmm.symm;subst hmc
  have hbb:=hb (cap*40) (by
   simp only [DataW.weights,Tryz.underlying39,ut,List.mem_cons];refine .inl ?_;simp;omega)
  simp [reachBytes] at hbb
  have each:∀ i,i<len->∃ y:Nd,Ej y/\∃ b o,a=⟨b,o,none⟩/\nK W b (o+i*3) y:=by
   intro i hi;obtain ⟨cs',hc,ht⟩:=hx i (by omega);rw [nT] at hc;obtain ⟨_,hcl,hat⟩:=World.cells?_some hc;obtain ⟨y0,y1,y2,n',hy,hlen,g0,g1,g2⟩:=trod_struct3 Tryz.underlying106 ht
   match cs',hcl with
   | [c0,c1,c2],_ =>
    have q0:=hat 0 (by omega);have q1:=hat 1 (by omega);have q2:=hat 2 (by omega);simp only [List.getElem?_cons_zero,List.getElem?_cons_succ] at q0 q1 q2;have k0:Tryz.prog.cellsOf 3=1:=pO;have k2:Tryz.prog.cellsOf 22=1:=uw;simp only [k0,k2,List.drop_zero,List.drop_succ_cons,List.take_succ_cons,List.take_zero] at g0 g1 g2;obtain ⟨kd,e0,hy0,w0⟩:=DataW.trod_int Tryz.underlying3 g0;obtain ⟨kk,e1,hy1,w1⟩:=DataW.trod_int Tryz.underlying3 g1;simp at e0 e1;subst e0 e1;have hdi:D i=.agg [y0.1,y1.1,y2.1]:=by simpa using congrArg Prod.fst hy
    obtain ⟨u,xs,e2,hu,hwu⟩:=yj (fun n hn=>hb n (by
     simp only [DataW.weights,Tryz.underlying39,List.mem_cons,List.mem_append];refine .inr (.inl (dY (d:=D i) (List.mem_map.2 ⟨i,by simpa using hi,rfl⟩) n ?_));rw [hdi];simp only [DataW.weights,Tryz.underlying106];simp only [List.map_cons,DataW.weightsEach,List.mem_append];exact .inr (.inr (.inl hn)))) g2
    simp at e2;subst e2;obtain ⟨b,o,spot⟩:=a
    have hspot:spot=none:=by
     obtain ⟨cs0,hc0,_⟩:=hx 0 (by omega);rw [nT] at hc0;obtain ⟨_,hcl0,hat0⟩:=World.cells?_some hc0;have h1:=hat0 0 (by omega);rw [List.getElem?_eq_getElem (by omega)] at h1;exact World.cell?_spot (a:=⟨b,o,spot⟩) (by simpa [Addr.add] using h1)
    subst hspot;refine ⟨⟨kd,kk,xs⟩,⟨bounds_i64 w0,bounds_i64 w1,hwu⟩,b,o,rfl,c2,?_,?_,?_,hu⟩
    ·rw [<-q0,nd,nd];rfl
    ·rw [<-q1,nd,nd]
    ·rw [<-q2,nd,nd]
  obtain ⟨g,hg⟩:=choose_lt each;refine ⟨_,(List.range len).map g,rfl,⟨some a,cap,by simp,⟨by simp;omega,fun h=>by cases h⟩,by simp;omega,fun i hi=>?_⟩,fun y hy=>?_⟩
  ·simp only [List.length_map,List.length_range] at hi;obtain ⟨_,b,o,rfl,h1⟩:=hg i hi;exact ⟨b,o,rfl,by simpa using h1⟩
  ·obtain ⟨i,hi,rfl⟩:=List.mem_map.1 hy;exact (hg i (by simpa using hi)).1
theorem De {v:Value} {d:DataW H} {p:List MemPlace} (hv:Value.okWide Tryz.prog W .any base 41 v) (hb:∀ n∈d.weights Tryz.prog 41,n<=reachBytes)
  (h:DataW.Trod enc Tryz.prog W 0 (fun _=>true) true 41 v d p):∃ u f,v=jo u f/\aG W u f.nodes/\CL f:=by
 obtain ⟨v0,v1,v2,y0,y1,y2,n,rfl,hd,_,t0,t1,t2⟩:=open_agg3 Tryz.underlying41 (by kernel_rfl) Ag hv h;obtain ⟨vars,e0,_,w0⟩:=DataW.trod_int Tryz.underlying3 t0;obtain ⟨top,e2,_,w2⟩:=DataW.trod_int Tryz.underlying3 t2;simp at e0 e2;subst e0 e2
 obtain ⟨u,xs,e1,hu,hwu⟩:=vt (fun n hn=>hb n (by
  rw [hd];simp only [DataW.weights,Tryz.underlying41];simp only [List.map_cons,DataW.weightsEach,List.mem_append];exact .inr (.inl hn))) t1
 simp at e1;subst e1;exact ⟨v1,⟨vars,xs,top⟩,rfl,hu,bounds_i64 w0,bounds_i64 w2,hwu⟩
end
end
theorem yG {w:World} {v:Value} {nodes:List Nd} (h:aG w v nodes) (i:Nat) (hi:i<nodes.length) :
  ∃ b o n c ua un uc,v=.slice (some ⟨b,o,none⟩) n c/\n=nodes.length/\∀ W,af w W->W.rangeAt b (o+i*3) [.int .i64 nodes[i].kind,.int .i64 nodes[i].k,.slice ua un uc]/\am W (.slice ua un uc) nodes[i].args:=by
 obtain ⟨a,c,h1,_,_,h4⟩:=h;obtain ⟨b,o,h5,u,e0,e1,e2,e3⟩:=h4 i hi;obtain ⟨ua,un,uc,rfl⟩:=e3.shape;exact ⟨b,o,_,c,ua,un,uc,by rw [h1,h5],rfl,fun W hk=>⟨d_ (hk.cell e0) (hk.cell e1) (hk.cell e2),e3.kept hk⟩⟩
def zP (w':World) (e:Ending) (r:Option (List Nat × List Nat)):Prop :=
 match r with
 | some p=>∃ v1 v2 L,e=.returned (.tuple #[v1,v2,.nilIface])/\aK w' 0 v1 L/\L.Perm p.1/\OwnInts w' 0 v2 (aO p.2)
 | none=>e=.returned (.tuple #[.slice none 0 0,.slice none 0 0,aV 4])
theorem qE (v:Value) (V:Nat) (T:Int) (w:World) (hs:∃ a n c,v=.slice a n c) (hsy:∀ W,af w W->Calls Tryz.prog 124 #[.agg #[.int .i64 V,v,.int .i64 T]] W fun e w'=>e=.returned (.tuple #[.bool false,.nilIface])/\af W w') :
  Calls Tryz.prog 77 #[.agg #[.int .i64 V,v,.int .i64 T]] w fun e w'=>e=.returned (.tuple #[.slice none 0 0,.slice none 0 0,aV 7])/\af w w':=by
 obtain ⟨a,n,c,rfl⟩:=hs;have H:=ae hsy;clear hsy;rw [aA (show (7:Nat)≠0 by decide)];go_enter Tryz.func77,Tryz.ntmps77;go_wp2_with (go_at_call 124;refine (H.out _ ((af.refl _).alloc _)).mono ?_;rintro e w1 ⟨rfl,hk1⟩);go_ret3;exact ⟨rfl,((af.refl _).alloc _).trans hk1⟩
theorem aK.zero {w:World} {B:Nat} {v:Value} {L:List Nat} (h:aK w B v L):aK w 0 v L:=h.mono (Nat.zero_le _)
theorem aK.grown {w w':World} {B:Nat} {ob:Option Nat} {v:Value} {L:List Nat} (h:aK w B v L) (hg:w.grownBy w' ob) (hne:∀ g,v.ownBlock=some g->some g≠ob):aK w' B v L:=by
 obtain ⟨⟨h1,h2⟩,h3⟩:=h;refine ⟨⟨h1,h2.imp id ?_⟩,h3⟩;rintro ⟨b,cap,cur,rfl,h5,h6,h7⟩;refine ⟨b,cap,cur,rfl,h5,?_,h7⟩
 have hlt:b<w.heap.size:=by
  by_cases h:b<w.heap.size
  ·exact h
  ·rw [Array.getElem?_eq_none (Nat.le_of_not_lt h)] at h6;cases h6
 exact (hg.block b hlt (hne b (by simp [Value.ownBlock]))).trans h6
theorem OwnInts.own_lt {w:World} {B:Nat} {v:Value} {xs:List Int} (h:OwnInts w B v xs) {g:Nat} (hg:v.ownBlock=some g):g<w.heap.size:=(h.1.lt g hg).2
theorem Du (w:World) (B c:Nat) (hB:B<=w.heap.size) (hc:aF 152 c):aK (w.alloc (.cells #[.int .i64 (ck c),.int .u64 (ce c),.int .u64 (bT c)] 99)) B (.slice (some ⟨w.heap.size,0,none⟩) 1 1) [c] :=
 ⟨⟨by simp [aX],.inr ⟨w.heap.size,1,_,rfl,hB,heap_alloc_new w _,Nat.le_refl _,by unfold maxLen;omega,by simp,by simp [aX]⟩⟩,by simp,by simpa using hc⟩
theorem dv.len {w:World} {v:Value} {L:List Nat} (h:dv w v L):L.length<=10000:=by obtain ⟨_,_,_,_,h,_⟩:=h;exact h
theorem dv.lt {w:World} {v:Value} {L:List Nat} (h:dv w v L):∀ c∈L,aF 152 c:=by obtain ⟨_,_,_,_,_,h,_⟩:=h;exact h
theorem dv.get {w:World} {a:Option Addr} {n c:Nat} {L:List Nat} (h:dv w (.slice a n c) L) (i:Nat) (hi:i<L.length):∃ b o,a=some ⟨b,o,none⟩/\w.rangeAt b (o+i*3) (aX L[i]):=by
 obtain ⟨a',c',h1,_,_,_,h5⟩:=h;injection h1 with h1 h2 h3
 subst h1;exact h5 i hi
theorem mV (w:World):zP w (.returned (.tuple #[.slice none 0 0,.slice none 0 0,aV 4])) none:=rfl
theorem AB {gl:Nat} {v v':Value} {w0 w w':World} (hk:af w0 w) (h:dL gl v v' w w') (h1:w0.heap.size<=gl) (h2:v.ownBlock=none):af w0 w':=by
 refine ⟨h.os.trans hk.os,h.tape.trans hk.tape,h.output.trans hk.output,Nat.le_trans hk.size h.size,fun k hk'=>?_⟩;have:=hk.size;refine (h.block k (by omega) (by omega) (by rw [h2];simp)).trans (hk.block k hk')
theorem rG (v:Value) (f:Fm) (V T:Nat) (w:World) (hv:aG w v f.nodes) (hok:Ok f V T) (hck:di f=0) (hs:cC V T f=true) :
  Calls Tryz.prog 77 #[.agg #[.int .i64 V,v,.int .i64 T]] w fun e w'=>zP w' e (dx V T f.nodes)/\af w w':=by
 have HSY:Hid (∀ W,af w W->Calls Tryz.prog 124 #[.agg #[.int .i64 V,v,.int .i64 T]] W fun e w'=>e=.returned (.tuple #[.bool true,.nilIface])/\af W w'):=ae fun W hk=>by
  have:=jw v f V T W (hv.kept hk) hok hck;rw [hs] at this;exact this
 have HNR:=ae (fun i (hi:i<f.nodes.length)=>yG hv i hi);have HOK:=ae hok;have HMO:=ae (fun i (hi:i<f.nodes.length) h=>jp hok hs i hi h);have hsh:∃ a n c,v=.slice a n c:=by obtain ⟨a,c,h,_⟩:=hv;exact ⟨a,_,c,h⟩
 obtain ⟨a,n,c,rfl⟩:=hsh;have h24:=hok.v24;have h128:=hok.n128;have htl:=hok.tlt;have hc0:aF 152 (cond V (T:Int)):=h_ (dC (V:=V) (m:=128) (by omega) h24) (by omega);have HST0:=ae (fm.start hok)
 have HW0:Hid (∀ W',Calls Tryz.prog 125 #[.agg #[.int .i64 0,.int .u64 0,.int .u64 0],.agg #[.int .i64 V,.slice a n c,.int .i64 T],.int .i64 T] W' fun e w'=>e=.returned (cR (cond V (T:Int)))/\af W' w'):=ae fun W'=>by
  have:=ju (c:=0) (fun j hj=>by simp at hj) V (.slice a n c) T ⟨_,_,_,rfl⟩ h24 (T:Int) (by omega) W';rw [show bp V 0 (T:Int)=cond V (T:Int) by unfold bp;simp] at this;exact this
 obtain ⟨c0,hc00⟩:∃ c0,c0=cond V (T:Int):=⟨_,rfl⟩;obtain ⟨nl,hnl⟩:∃ nl,nl=f.nodes.length:=⟨_,rfl⟩;rw [<-hc00] at hc0 HST0 HW0;rw [<-hnl] at HST0 h128;have HNL:=ae hnl;have HC0:=ae hc0;obtain ⟨x0,hx0⟩:∃ x,x=ck c0:=⟨_,rfl⟩;obtain ⟨x1,hx1⟩:∃ x,x=ce c0:=⟨_,rfl⟩;obtain ⟨x2,hx2⟩:∃ x,x=bT c0:=⟨_,rfl⟩;have HOW:Hid (∀ (W:World) (B:Nat),B<=W.heap.size->aK (W.alloc (.cells #[.int .i64 x0,.int .u64 x1,.int .u64 x2] 99)) B (.slice (some ⟨W.heap.size,0,none⟩) 1 1) [c0]):=ae fun W B hB=>by rw [hx0,hx1,hx2];exact Du W B c0 hB hc0
 unfold cR at HW0;rw [<-hx0,<-hx1,<-hx2] at HW0;clear hv hok hck hs hc0 hc00 hnl hx0 hx1 hx2 htl;go_enter Tryz.func77,Tryz.ntmps77;go_wp2_with (go_at_call 124;refine (HSY.out _ ((af.refl _).alloc _)).mono ?_;rintro e w1 ⟨rfl,hk1⟩;have d0:=hk1.cell (p:=⟨w.heap.size,0,none⟩) (v:=.int .i64 V) (by simp);have d1:=hk1.cell (p:=⟨w.heap.size,1,none⟩) (v:=.slice a n c) (by simp);have d2:=hk1.cell (p:=⟨w.heap.size,2,none⟩) (v:=.int .i64 T) (by simp);have HK1:=ae (((af.refl _).alloc _).trans hk1);clear hk1);refine (HW0.out _).mono ?_;rintro e w2 ⟨rfl,hk2⟩;have d0':=hk2.cell d0;have d1':=hk2.cell d1;have d2':=hk2.cell d2;have HK2:=ae (HK1.out.trans hk2)
 have hsz2:w.heap.size<w2.heap.size:=by
  by_cases h:w.heap.size<w2.heap.size
  ·exact h
  ·simp [World.cell?,Array.getElem?_eq_none (Nat.le_of_not_lt h)] at d0'
 clear d0 d1 d2 hk2 HK1;go_wp2;obtain ⟨L1,hL1⟩:∃ L:World,L=w2.alloc (.cells #[.int .i64 x0,.int .u64 x1,.int .u64 x2] 99):=⟨_,rfl⟩;have HL1:=ae hL1;clear hL1;have e0:=(by rw [HL1.out];exact ((af.refl w2).alloc _).cell d0':L1.cell? ⟨w.heap.size,0,none⟩=some (.int .i64 V));have e1:=(by rw [HL1.out];exact ((af.refl w2).alloc _).cell d1':L1.cell? ⟨w.heap.size,1,none⟩=some (.slice a n c));have e2:=(by rw [HL1.out];exact ((af.refl w2).alloc _).cell d2':L1.cell? ⟨w.heap.size,2,none⟩=some (.int .i64 T));have HKL:Hid (af w L1):=ae (by rw [HL1.out];exact HK2.out.trans ((af.refl w2).alloc _));clear d0' d1' d2';go_loopg [7,8] nl (fun kx s7 s8 wr=>∃ (L st:List Nat) (m:Nat) (vr vs:Value),s7=vr/\s8=vs/\m<=kx/\Hid (fm V T f L st m/\st.length+m<=128)/\Hid (aK wr w2.heap.size vr L)/\Hid (OwnInts wr L1.heap.size vs (aO st))/\Hid (af L1 wr))
 case atStart=>exact ⟨[c0],[],nl,_,_,rfl,rfl,Nat.le_refl _,ae ⟨HST0.out,by simpa using h128⟩,ae (HOW.out _ _ (Nat.le_refl _)),ae (OwnInts.nil _ _),ae (by rw [HL1.out];exact af.refl _)⟩
 case round =>
  obtain ⟨wo,rfl⟩:∃ wo:World,wo=wr:=⟨_,rfl⟩;obtain ⟨L,st,m,vr,vs,rfl,rfl,hmk,HST,HOR,HOS,HK⟩:=hrel;obtain ⟨va,vc,hvr⟩:=HOR.out.at.shape;obtain ⟨ln,hln⟩:∃ ln,ln=L.length:=⟨_,rfl⟩;rw [<-hln] at hvr;have hlb:ln<=10000:=by rw [hln];exact HOR.out.at.len
  subst hvr;have HLN:=ae hln;have HG:=ae (rh _ L wo HOR.out.at);have d0:=HK.out.cell e0;have d1:=HK.out.cell e1;have d2:=HK.out.cell e2;clear hln;go_wp2_with fail;refine HG.out.mono ?_;rintro e w3 ⟨⟨r,rfl,hg⟩,hk3⟩;have HGT:=ae hg;have HK3:=ae hk3;by_cases hr0:r<0
  ·clear hg hk3 d0 d1 d2;go_wp2;go_ret3;refine ⟨?_,HKL.out.trans (HK.out.trans HK3.out)⟩;obtain ⟨R,hR,hp⟩:=HST.out.1.done fun c hc j hj=>by have:=HGT.out.1 c hc j hj;omega
   rw [hR];exact ⟨_,_,L,rfl,(HOR.out.kept HK3.out).zero,hp,(HOS.out.mono (Nat.zero_le _)).kept HK3.out⟩
  ·obtain ⟨i,rfl,hib⟩:=hg.2.resolve_left (by omega);obtain ⟨him,hmk2,_⟩:=HST.out.1.at hib fun c hc j hj=>by have:=hg.1 c hc j hj;omega
   have hle:=HST.out.1.le;have hil:i<f.nodes.length:=by omega
   obtain ⟨b,o,n',c',ua,un,uc,hveq,hn',hnr⟩:=HNR.out i hil;injection hveq with q1 q2 q3
   subst q1;rw [<-q2,<-HNL.out] at hn';have hkd:=HMO.out i hil hmk2;have hok:=HOK.out;have h128':=hok.n128;have hargs:∀ a∈f.nodes[i].args,0<=a/\a<(V:Int)+128:=fun a ha=>by have:=hok.args i hil a ha;omega
   have h16:f.nodes[i].args.length<=16:=jh (hok.argc i hil)
   have hk4:f.nodes[i].kind=4->1<=f.nodes[i].k/\f.nodes[i].k<=f.nodes[i].args.length:=fun h4=>by
    have:=hok.arity i hil;unfold jA at this;rw [if_neg (by omega),if_pos h4] at this;split at this
    ·omega
    ·cases this
   have hx:f.nodes.getD i bB=f.nodes[i]:=by simp [List.getD_eq_getElem?_getD,hil]
   obtain ⟨x,hxx⟩:∃ x,x=f.nodes[i]:=⟨_,rfl⟩;rw [<-hxx] at hnr hkd hargs h16 hk4 hx;have HX:=ae hx;have hin:i<n:=by rw [hn',HNL.out];exact hil
   have hi128:i<128:=by omega
   have HEX:Hid (∀ W q u LL gl,af w W->w.heap.size<=gl->gl<=W.heap.size->ListAt W gl gl u LL->LL.length<=4097->aF 152 q->Calls Tryz.prog 128 #[.pointer (some ⟨gl,0,none⟩),.agg #[.int .i64 V,.slice (some ⟨b,o,none⟩) n c,.int .i64 T],.agg #[.int .i64 (ck q),.int .u64 (ce q),.int .u64 (bT q)],.int .i64 i] W fun e w'=>e=.returned (.tuple #[])/\∃ v',ListAt w' gl gl v' ((LL++em V x i q).take 4097)/\dL gl u v' W w'):=ae fun W q u LL gl hk hg1 hg2 hL hl hq =>
    uP gl gl V i q b o n c T x ua un uc u LL W (Nat.le_refl _) h24 hg2 hL hl hq hi128 hin (hnr W hk).1 (fun w' hb=>(hnr w' (hk.app (hb.mono hg1))).2) hargs h16 hkd hk4
   clear hnr hkd hargs h16 hk4 hx hxx hok hmk2 q2 q3 hn' hg hib hil;have hsz3:=hk3.size;have d0':=hk3.cell d0;have d1':=hk3.cell d1;have d2':=hk3.cell d2;clear hk3 d0 d1 d2;go_wp2;obtain ⟨L3,hL3⟩:∃ L:World,L=w3.alloc (.cells #[.slice none 0 0] 144):=⟨_,rfl⟩;have HL3:=ae hL3;have HK33:Hid (af w3 L3):=ae (by rw [HL3.out];exact (af.refl _).alloc _);clear hL3;go_loopg [38] ln (fun kx s38 wr=>∃ (k:Nat) (vk:Value),s38=.int .i64 k/\k<=ln/\ln - k<=kx/\Hid (ListAt wr w3.heap.size w3.heap.size vk ((cZ V x i (L.take k)).take 4097))/\Hid (dL w3.heap.size (.slice none 0 0) vk L3 wr))
   case atStart=>exact ⟨0,_,rfl,Nat.zero_le _,by omega,ae ⟨ai.made w3 _ _,by simpa [cZ] using aK.nil _ _⟩,ae (by rw [HL3.out];exact dL.of_kept (af.refl _))⟩
   case round =>
    obtain ⟨k,vk,rfl,hk,hkx,HLI,HFI⟩:=hrel;have hkwi:af w3 wr:=AB HK33.out HFI.out (Nat.le_refl _) rfl;have HKI:=ae hkwi;have hszi:=hkwi.size;by_cases hlt:k<ln
    ·have hkl:k<L.length:=by have:=HLN.out;omega
     have hrows:=HOR.out.at.kept (HK3.out.trans hkwi);obtain ⟨b2,o2,rfl,hrg⟩:=hrows.get k hkl;have hql:=hrows.lt L[k] (List.getElem_mem _);have hnext:=xW V x i L k hkl;obtain ⟨q,hqq⟩:∃ q,q=L[k]:=⟨_,rfl⟩;rw [<-hqq] at hrg hql hnext;unfold uN at hnext;have f0:=hkwi.cell d0';have f1:=hkwi.cell d1';have f2:=hkwi.cell d2';have hlen:((cZ V x i (L.take k)).take 4097).length<=4097:=by rw [List.length_take];omega
     have HKWI:Hid (∀ W,af wr W->af w W):=ae fun W hk=>HKL.out.trans (HK.out.trans (HK3.out.trans (hkwi.trans hk)))
     have HHAS:Hid (∀ W,Calls Tryz.prog 127 #[cR q,.int .i64 i] W fun e w'=>e=.returned (.bool (q.testBit (24+i)))/\af W w'):=ae fun W=>BS hql i hi128 W
     unfold cR at HHAS;have hkn:(k:Int)<(ln:Int):=by omega
     cases hq:q.testBit (24+i) with
     | true =>
      rw [hq] at hnext HHAS;rw [if_pos rfl] at hnext
      have HE2:Hid (∀ W,af wr W->Calls Tryz.prog 128 #[.pointer (some ⟨w3.heap.size,0,none⟩),.agg #[.int .i64 V,.slice (some ⟨b,o,none⟩) n c,.int .i64 T],.agg #[.int .i64 (ck q),.int .u64 (ce q),.int .u64 (bT q)],.int .i64 i] W fun e w'=>e=.returned (.tuple #[])/\∃ v',Hid (ListAt w' w3.heap.size w3.heap.size v' ((cZ V x i (L.take (k+1))).take 4097))/\Hid (dL w3.heap.size (.slice none 0 0) v' L3 w')):=ae fun W hk=>by
       have:=HEX.out W q vk _ w3.heap.size (HKWI.out W hk) (by have:=HKL.out.size;have:=HK.out.size;omega) (by have:=hk.size;omega) (ListAt.kept HLI.out hk) hlen hql;rw [lz,<-hnext] at this;exact this.mono fun _ _ ⟨h1,v',h2,h3⟩=>⟨h1,v',ae h2,ae ((HFI.out.trans (dL.of_kept hk)).trans h3)⟩
      have HRG:Hid (wr.rangeAt b2 (o2+k*3) [.int .i64 (ck q),.int .u64 (ce q),.int .u64 (bT q)]):=ae hrg;generalize ck q=z0 at *;generalize ce q=z1 at *;generalize bT q=z2 at *;clear hrg hql hnext hqq hrows hq HEX d0' d1' d2' HLI HFI hkwi hlen;go_wp2_with (first | (with_reducible refine wpList_load_mid rfl 99 _ rfl b2 (o2+k*3) rfl _ _ HRG.out Tryz.underlying99 rfl (by kernel_rfl) ?_) | (go_at_call 127;refine (HHAS.out _).mono ?_;rintro e w4 ⟨rfl,hk4⟩;have b0:=hk4.cell (p:=⟨wr.heap.size,0,none⟩) (v:=.int .i64 z0) (by simp);have b1:=hk4.cell (p:=⟨wr.heap.size,1,none⟩) (v:=.int .u64 z1) (by simp);have b2:=hk4.cell (p:=⟨wr.heap.size,2,none⟩) (v:=.int .u64 z2) (by simp);have HK4:=ae (((af.refl wr).alloc _).trans hk4);have g0:=HK4.out.cell f0;have g1:=HK4.out.cell f1;have g2:=HK4.out.cell f2;clear hk4) | (go_at_call 128;refine (HE2.out _ HK4.out).mono ?_;rintro e w5 ⟨rfl,v',h3,h4⟩));go_roundg (ln - (k+1))
      case measure=>omega
      case rel=>exact ⟨k+1,v',by go_num,by omega,Nat.le_refl _,h3,h4⟩
     | false =>
      rw [hq] at hnext HHAS;rw [if_neg (by simp)] at hnext
      have HE2:Hid (∀ W,af wr W->Calls Tryz.prog 129 #[.pointer (some ⟨w3.heap.size,0,none⟩),.agg #[.int .i64 (ck q),.int .u64 (ce q),.int .u64 (bT q)]] W fun e w'=>e=.returned (.tuple #[])/\∃ v',Hid (ListAt w' w3.heap.size w3.heap.size v' ((cZ V x i (L.take (k+1))).take 4097))/\Hid (dL w3.heap.size (.slice none 0 0) v' L3 w')):=ae fun W hk=>by
       have:=kw w3.heap.size w3.heap.size q vk _ W (ListAt.kept HLI.out hk) hql hlen (Nat.le_refl _);rw [jf hlen,lz,<-hnext] at this;exact this.mono fun _ _ ⟨h1,v',h2,h3⟩=>⟨h1,v',ae h2,ae ((HFI.out.trans (dL.of_kept hk)).trans h3)⟩
      have HRG:Hid (wr.rangeAt b2 (o2+k*3) [.int .i64 (ck q),.int .u64 (ce q),.int .u64 (bT q)]):=ae hrg;generalize ck q=z0 at *;generalize ce q=z1 at *;generalize bT q=z2 at *;clear hrg hql hnext hqq hrows hq HEX d0' d1' d2' HLI HFI hkwi hlen;go_wp2_with (first | (with_reducible refine wpList_load_mid rfl 99 _ rfl b2 (o2+k*3) rfl _ _ HRG.out Tryz.underlying99 rfl (by kernel_rfl) ?_) | (go_at_call 127;refine (HHAS.out _).mono ?_;rintro e w4 ⟨rfl,hk4⟩;have b0:=hk4.cell (p:=⟨wr.heap.size,0,none⟩) (v:=.int .i64 z0) (by simp);have b1:=hk4.cell (p:=⟨wr.heap.size,1,none⟩) (v:=.int .u64 z1) (by simp);have b2:=hk4.cell (p:=⟨wr.heap.size,2,none⟩) (v:=.int .u64 z2) (by simp);have HK4:=ae (((af.refl wr).alloc _).trans hk4);clear hk4) | (go_at_call 129;refine (HE2.out _ HK4.out).mono ?_;rintro e w5 ⟨rfl,v',h3,h4⟩));go_roundg (ln - (k+1))
      case measure=>omega
      case rel=>exact ⟨k+1,v',by go_num,by omega,Nat.le_refl _,h3,h4⟩
    ·have hke:k=ln:=by omega
     have HLE:Hid (ListAt wr w3.heap.size w3.heap.size vk ((cZ V x i L).take 4097)):=ae (by have h:=HLI.out;rw [hke,HLN.out,List.take_length] at h;exact h);have c0:=HLE.out.1.cell (i:=0) (by simp);simp only [List.getElem_cons_zero] at c0;obtain ⟨vka,vkc,hvk⟩:=HLE.out.2.at.shape;obtain ⟨n2,hn2⟩:∃ n2,n2=((cZ V x i L).take 4097).length:=⟨_,rfl⟩;rw [<-hn2] at hvk;subst hvk;have HN2:=ae hn2;have hn2b:n2<=4097:=by rw [hn2,List.length_take];omega
     have HHI:Hid ((∃ c∈L,c.testBit (24+i)=true)/\∀ c∈L,∀ j,c.testBit (24+j)=true->j<=i):=ae ⟨by
      rcases HGT.out.2 with h | ⟨j,hj,hc⟩
      ·omega
      ·rw [show i=j by omega];exact hc,fun c hc j hj=>by have:=HGT.out.1 c hc j hj;omega⟩
     clear hke hn2 HLI HEX HFI;by_cases hbig:4096<n2
     ·have hbig':(n2:Int) > 4096:=by omega
      go_wp2;go_ret3;refine ⟨?_,HKL.out.trans (HK.out.trans (HK3.out.trans HKI.out))⟩;rw [HST.out.1.full HHI.out.1 HHI.out.2 (by rw [HX.out];have:=HN2.out;rw [List.length_take] at this;omega)];exact mV _
     ·have hbig':¬ (n2:Int) > 4096:=by omega
      have hfull:(cZ V x i L).length<=4096:=by have:=HN2.out;rw [List.length_take] at this;omega
      have HLS:=ae (oj _ _ wr HLE.out.2.at (by rw [List.length_take];omega));rw [List.take_of_length_le (by omega)] at HLS;have HFU:=ae hfull;clear hfull HLE;go_wp2_with fail;refine HLS.out.mono ?_;rintro e w6 ⟨⟨v6,M,rfl,ho6,hp6⟩,hk6⟩;have HO6:=ae ho6;have HP6:=ae hp6;have HK6:=ae hk6;obtain ⟨va6,vc6,hv6⟩:=ho6.at.shape;obtain ⟨n6,hn6⟩:∃ n6,n6=M.length:=⟨_,rfl⟩;rw [<-hn6] at hv6;have hn6b:n6<=10000:=by rw [hn6];exact ho6.at.len
      subst hv6;have HN6:=ae hn6;have HKA:Hid (af wo w6):=ae (HK3.out.trans (HKI.out.trans hk6));have HKB:Hid (af L1 w6):=ae (HK.out.trans HKA.out);have hsz6:=hk6.size;clear hn6 ho6 hp6 hk6 HLS;by_cases hbig6:1024<n6
      ·have hbig6':(n6:Int) > 1024:=by omega
       go_wp2;go_ret3;refine ⟨?_,HKL.out.trans HKB.out⟩;rw [HST.out.1.many (M:=M) HHI.out.1 HHI.out.2 (by rw [HX.out];exact HP6.out) (by rw [<-HN6.out];exact hbig6)];exact mV _
      ·have hbig6':¬ (n6:Int) > 1024:=by omega
       have HS2:=ae (HST.out.1.next (M:=M) HOK.out HHI.out.1 HHI.out.2 (by rw [HX.out];exact HFU.out) (by rw [HX.out];exact HP6.out) (by rw [<-HN6.out];omega));have HOS6:=ae (HOS.out.kept HKA.out);have hst:=HST.out.2;have hstl:(aO st).length=st.length:=by simp [aO]
       have hszL:=HKB.out.size;have HOWN:Hid (∀ g,u8.ownBlock=some g->g<wr.heap.size):=ae fun g hg=>by have:=HOS.out.own_lt hg;have:=(HK3.out.trans HKI.out).size;omega
       go_wp2_with (at_builtin;refine nr rfl _ _ rfl L1.heap.size _ (aO st) rfl (HOS6.out.kept ((af.refl _).alloc _)) _ (n6:Int) rfl (by simp) (by rw [hstl];omega) (by simp;omega) ?_;intro v7 w7 hown7 hg7 hb7;have O7:=ae hown7;have HB7:=ae hb7;have HG7:=ae hg7;clear hown7 hb7 hg7);go_roundg i
       case measure=>omega
       case rel =>
        refine ⟨M,st++[n6],i,_,v7,rfl,rfl,Nat.le_refl _,ae ⟨by have:=HS2.out;rw [<-HN6.out] at this;exact this,by simp;omega⟩,ae ?_,ae ?_,ae ?_⟩
        ·refine ((HO6.out.kept ((af.refl _).alloc _)).grown HG7.out fun g hg e=>?_).mono (by have h1:=HK.out.size;have h2:=HKI.out.size;have h3:=HK3.out.size;have h4:L1.heap.size=w2.heap.size+1:=(by rw [HL1.out];simp);omega);have h1:=(HO6.out.own_ge hg).1;have h2:=HOWN.out g e.symm;omega
        ·have:=O7.out;simpa [aO] using this
        ·exact (HKB.out.alloc _).app HB7.out
def Gu (a b:Nat):Int:=if a=b then 0 else if eU a b then -1 else 1
theorem bu.shape {w:World} {v:Value} {ns:List Nat} (h:bu w v ns):∃ a c,v=.slice a ns.length c/\ns.length<=c/\(ns≠[]->∃ b o,a=some ⟨b,o,none⟩):=by
 obtain ⟨⟨a,c,h1,⟨h0,_⟩,_,h3⟩,_⟩:=h;refine ⟨a,c,by simpa using h1,by simpa using h0,fun hne=>?_⟩
 have:0<(aO ns).length:=by simpa using List.length_pos_iff.2 hne
 obtain ⟨b,o,h4,_⟩:=h3 0 this;exact ⟨b,o,h4⟩
def GA:Value->Nat | .slice _ n _=>n | _=>0
structure Gn (ns zs xs ys:List Nat):Prop where
 left:(zs++xs).Pairwise eU
 right:(zs++ys).Pairwise eU
 mem:∀ z,z∈ns ↔ z∈zs\/z∈xs\/z∈ys
 len:zs.length+xs.length+ys.length<=ns.length
abbrev Gj (b o n c:Nat):Value:=.slice (if c=1 then some ⟨b,o,none⟩ else some ⟨b,o+1,none⟩) n (c - 1)
def covB (l:List Nat) (s:Nat):Bool:=l.any fun t=>subN t s
theorem vv {R:List Nat}:∀ {l:List Nat},R.Nodup->(∀ x∈R,x∈l)->l.length<=R.length->l.Perm R:=by
 induction R with
 | nil=>intro l _ _ hl;simp at hl;subst hl;exact .refl _
 | cons x R ih =>
  intro l hn hs hl;have hx:x∈l:=hs x (List.mem_cons_self ..);have h1:=List.perm_cons_erase hx;have h2:=ih (l:=l.erase x) (List.nodup_cons.1 hn).2 (fun y hy=>(List.mem_erase_of_ne (fun e=>(List.nodup_cons.1 hn).1 (by rw [<-e];exact hy))).2 (hs y (List.mem_cons_of_mem _ hy))) (by rw [List.length_erase_of_mem hx];simp at hl;omega);exact h1.trans (h2.cons x)
theorem vU {R rs:List Nat} (hR:CJ R) (hl:rs.length=R.length) (hp:rs.Pairwise (fun a b=>eU a b\/a=b)) (hm:∀ x,x∈rs ↔ x∈R):rs=R:=by
 have hpR:R.Pairwise eU:=by rw [<-hR];exact fh R
 have hnR:R.Nodup:=hpR.imp fun {a b} h e=>by subst e;exact eB a h
 have hperm:=vv hnR (fun x hx=>(hm x).2 hx) (Nat.le_of_eq hl);have hn:rs.Nodup:=hperm.symm.nodup hnR;have hlt:rs.Pairwise eU:=(hp.and hn).imp fun {a b} h=>h.1.resolve_right h.2
 exact eG eU eB iS rs R hlt hpR hm
def qQ (w':World) (e:Ending) (p:List Nat × List Nat):Prop:=∃ v1 v2 L,e=.returned (.tuple #[v1,v2,.nilIface])/\aK w' 0 v1 L/\L.Perm p.1/\OwnInts w' 0 v2 (aO p.2)
theorem jy (v:Value) (f:Fm) (q:Nat) (hq:q≠0) (w:World) (hs:∃ a n c,v=.slice a n c) (hr:∀ W,af w W->Calls Tryz.prog 77 #[jo v f] W fun e w'=>e=.returned (.tuple #[.slice none 0 0,.slice none 0 0,aV q])/\af W w') :
  Calls Tryz.prog 34 #[jo v f] w fun e w'=>e=.returned (.tuple #[.slice none 0 0,aV q])/\af w w':=by
 obtain ⟨a,n,c,rfl⟩:=hs;obtain ⟨vars,nodes,top⟩:=f;have H:Hid (∀ W,af w W->Calls Tryz.prog 77 #[.agg #[.int .i64 vars,.slice a n c,.int .i64 top]] W fun e w'=>e=.returned (.tuple #[.slice none 0 0,.slice none 0 0,aV q])/\af W w'):=ae hr;rw [aA hq] at *;clear hr hq;show Calls _ _ #[.agg #[.int .i64 vars,.slice a n c,.int .i64 top]] _ _;go_enter Tryz.func34,Tryz.ntmps34;go_wp2_with (go_at_call 77;refine (H.out _ ((af.refl _).alloc _)).mono ?_;rintro e w1 ⟨rfl,hk1⟩);go_ret2;exact ⟨rfl,((af.refl _).alloc _).trans hk1⟩
theorem tY (v:Value) (V T:Nat) (p:List Nat × List Nat) (w:World) (hg:Good p.1) (hm:∀ r∈p.1,Mk r) (hs:∃ a n c,v=.slice a n c) (hr:∀ W,af w W->Calls Tryz.prog 77 #[.agg #[.int .i64 V,v,.int .i64 T]] W fun e w'=>qQ w' e p/\af W w') :
  Calls Tryz.prog 34 #[.agg #[.int .i64 V,v,.int .i64 T]] w fun e w'=>(∃ v',e=.returned (.tuple #[v',.nilIface])/\aJ w' 0 v' p.1)/\af w w':=by
 obtain ⟨a,n,c,rfl⟩:=hs;have H:=ae hr;have HG:=ae hg;have HM:=ae hm;clear hr hg hm;go_enter Tryz.func34,Tryz.ntmps34;go_wp2_with (go_at_call 77;refine (H.out _ ((af.refl _).alloc _)).mono ?_;rintro e w1 ⟨⟨v1,v2,L,rfl,ho1,hp1,ho2⟩,hk1⟩;obtain ⟨ln,hln⟩:∃ ln,ln=L.length:=⟨_,rfl⟩;obtain ⟨a1,c1,rfl⟩:=ho1.at.shape;obtain ⟨a2,n2,c2,rfl⟩:=ho2.ints.shape;rw [<-hln] at ho1;rw [<-hln];have O1:=ae ho1;have HLN:=ae hln;have HP1:=ae hp1;have hlb:ln<=10000:=(by rw [hln];exact ho1.at.len);clear hln hp1 ho1 ho2);have hk1w:=((af.refl _).alloc _).trans hk1;have HK1:=ae hk1w;clear hk1w hk1;go_loopg [7,21] ln (fun kx s7 s21 wr=>∃ (k:Nat) (vo:Value),s7=vo/\s21=.int .i64 k/\k<=ln/\ln - k<=kx/\Hid (OwnInts wr w1.heap.size vo (aO (L.take k)))/\Hid (af w1 wr))
 case atStart=>exact ⟨0,_,rfl,rfl,Nat.zero_le _,by omega,ae (OwnInts.nil _ _),ae (af.refl _)⟩
 case round =>
  obtain ⟨k,vo,rfl,rfl,hk,hkx,HO,HK⟩:=hrel;have hsz:=HK.out.size;obtain ⟨ao,no,co,hvo⟩:=HO.out.ints.shape;subst hvo;by_cases hlt:k<ln
  ·have hkl:k<L.length:=by have:=HLN.out;omega
   obtain ⟨b,o,rfl,hrg⟩:=(O1.out.at.kept HK.out).get k hkl;have hmk:Mk L[k]:=HM.out _ (HP1.out.mem_iff.1 (List.getElem_mem _));have hev:ck L[k]=L[k]:=by unfold ck;unfold Mk at hmk;omega
   have hnext:aO (L.take (k+1))=aO (L.take k)++[((ck L[k]:Nat):Int)]:=by unfold aO;rw [hev,List.take_succ_eq_append_getElem hkl,List.map_append];rfl
   have hlen:(aO (L.take k)).length=k:=by simp [aO];omega
   have hkn:(k:Int)<(ln:Int):=by omega
   have HRG:Hid (wr.rangeAt b (o+k*3) [.int .i64 (ck L[k]),.int .u64 (ce L[k]),.int .u64 (bT L[k])]):=ae hrg;generalize ck L[k]=z0 at *;generalize ce L[k]=z1 at *;generalize bT L[k]=z2 at *;have HNX:=ae hnext;clear hrg hmk hev hnext;go_wp2_with (first | (with_reducible refine wpList_load_mid rfl 99 _ rfl b (o+k*3) rfl _ _ HRG.out Tryz.underlying99 rfl (by kernel_rfl) ?_) | (at_builtin;refine nr rfl _ _ rfl w1.heap.size _ (aO (L.take k)) rfl (HO.out.kept (((af.refl _).alloc _).alloc _)) _ (z0:Int) rfl (by simp) (by rw [hlen];omega) (by simp;omega) ?_;intro v7 w7 hown7 _ hb7;have O7:=ae hown7;have HB7:=ae hb7;clear hown7 hb7));go_roundg (ln - (k+1))
   case measure=>omega
   case rel=>exact ⟨k+1,v7,rfl,by go_num,by omega,Nat.le_refl _,ae (by rw [HNX.out];exact O7.out),ae (((HK.out.alloc _).alloc _).app HB7.out)⟩
  ·have hke:k=ln:=by omega
   have HF:Hid (OwnInts wr w1.heap.size (.slice ao no co) (aO L)):=ae (by have h:=HO.out;rw [hke,HLN.out,List.take_length] at h;exact h);have HML:Hid (∀ n∈L,Mk n):=ae fun x hx=>HM.out x (HP1.out.mem_iff.1 hx)
   clear hke;go_wp2_with (go_at_call 78;refine (tR w1.heap.size _ L _ HML.out HF.out hsz).mono ?_;rintro e w3 ⟨rfl,rs,hr1,hr2,hr3,hr4,ho3,hb3⟩;have O3:=ae ho3;have R1:=ae hr1;have R2:=ae hr2;have R3:=ae hr3;have R4:=ae hr4;clear ho3 hr1 hr2 hr3 hr4);go_ret2;have he:rs=p.1:=vU HG.out.1 (R2.out.trans HP1.out.length_eq) R3.out fun x=>(R4.out x).trans HP1.out.mem_iff
   refine ⟨⟨_,rfl,by rw [<-he];exact O3.out.mono (Nat.zero_le _),HM.out⟩,HK1.out.trans (HK.out.app hb3)⟩
theorem rx (n:Nat) (h:0<n):pc (2*n)=pc n:=by
 conv=>lhs;unfold pc
 rw [if_neg (by omega),show 2*n % 2=0 by omega,show 2*n / 2=n by omega];omega
theorem Bx (n:Nat):pc (2*n+1)=1+pc n:=by
 conv=>lhs;unfold pc
 rw [if_neg (by omega),show (2*n+1) % 2=1 by omega,show (2*n+1) / 2=n by omega]
theorem Bz (k:Nat):pc (2^k)=1:=by
 induction k with
 | zero=>exact FA.2.1
 | succ k ih=>rw [Nat.pow_succ,Nat.mul_comm,rx _ (Nat.pow_pos (by omega))];exact ih
set_option linter.unusedSimpArgs false in
theorem Fc:dx 3 5 rf=some ([1,6],[1,2,2]):=by
 obtain ⟨h0,h1,h2,h3,h4,h5,h6,h7⟩:=FA;have p1:pc 16777217=2:=by rw [show 16777217=2*2^23+1 by decide,Bx,Bz]
 have p2:pc 16777220=2:=by rw [show 16777220=2*(2*(2*2^21+1)) by decide,rx _ (by decide),rx _ (by decide),Bx,Bz]
 have m1:aT [50331648]=[50331648]:=by simp [aT,bl,iQ,gV,aS]
 have m2:aT [16777217,16777220]=[16777217,16777220]:=by simp +decide [aT,bl,iQ,gV,aS,eU,p1,p2]
 have m3:aT [1,3,5,6]=[1,6]:=by simp +decide [aT,bl,iQ,gV,aS,eU,h0,h1,h2,h3,h4,h5,h6,h7]
 have s2:dD 3 rf 3 [67108864]=(dD 3 rf 2 [50331648]).map fun p=>(p.1,1 :: p.2):=by
  conv=>lhs;unfold dD
  rw [if_pos (by decide),show cZ 3 (rf.getD 2 bB) 2 [67108864]=[50331648] by decide,m1];rfl
 have s1:dD 3 rf 2 [50331648]=(dD 3 rf 1 [16777217,16777220]).map fun p=>(p.1,2 :: p.2):=by
  conv=>lhs;unfold dD
  rw [if_pos (by decide),show cZ 3 (rf.getD 1 bB) 1 [50331648]=[16777217,16777220] by decide,m2];rfl
 have s0:dD 3 rf 1 [16777217,16777220]=(dD 3 rf 0 [1,6]).map fun p=>(p.1,2 :: p.2):=by
  conv=>lhs;unfold dD
  rw [if_pos (by decide),show cZ 3 (rf.getD 0 bB) 0 [16777217,16777220]=[1,3,5,6] by decide,m3];rfl
 unfold dx;rw [show cond 3 ((5:Nat):Int)=67108864 by decide,show rf.length=3 from rfl,s2,s1,s0];rfl
section
open Go.RowKit Go.ChangeShapes Go.WideShapes Go.ChangeAt Go.Joins Go.Deep
theorem fx (q c:Nat) (hq:q≠0) (w:World):Calls Tryz.prog 33 #[aV q,.int .i64 c] w fun e w'=>e=.returned (.bool (q == c))/\w=w':=by
 rw [aA hq];have e:((q:Int) == (c:Int))=(q == c):=by rw [Bool.eq_iff_iff];simp;omega
 have HE:=ae e;clear hq e;go_enter Tryz.func33,Tryz.ntmps33;go_wp2;rw [zY];go_wp2;go_ret;exact ⟨by rw [<-HE.out];rfl,rfl⟩
end
def Fo (w:World) (B:Nat) (v:Value) (bs:List Bool):Prop:=w.ownsRow B 4 1 v bs.length (bs.map Value.bool)/\bs.length<=1000000
theorem CR (s k:Nat) (hs:s<16777216):(bits .and .i64 ((s:Int) / 2^k) 1 == 1)=s.testBit k:=by
 have e:(s:Int) / 2^k=((s / 2^k:Nat):Int):=by simp
 have hle:s / 2^k<=s:=Nat.div_le_self _ _;rw [e,show (1:Int)=((1:Nat):Int) from rfl,jg _ _ (by omega) (by omega),Nat.testBit_eq_decide_div_mod_eq,Nat.and_one_is_mod];rw [Bool.eq_iff_iff];simp;omega
def FI (w:World) (v:Value) (bs:List Bool):Prop :=
 ∃ (a:Option Addr) (c:Nat),v=.slice a bs.length c/\bs.length<=c/\bs.length<=1000000/\∀ i (_:i<bs.length),∃ b o,a=some ⟨b,o,none⟩/\w.cell? ⟨b,o+i,none⟩=some (.bool (bs.getD i false))
def nv:List Nat->Nat
 | []=>0
 | x :: l=>x+4294967296*nv l
def nw (n:Nat):List Nat:=if h:n=0 then [] else n % 4294967296 :: nw (n / 4294967296)
termination_by n
decreasing_by exact Nat.div_lt_self (by omega) (by omega)
def Wd (l:List Nat):Prop:=∀ x∈l,x<4294967296
theorem Wd.nil:Wd []:=fun x h=>by simp at h
theorem Wd.cons {x:Nat} {l:List Nat} (h:x<4294967296) (k:Wd l):Wd (x :: l):=fun y hy=>(List.mem_cons.1 hy).elim (fun e=>by rw [e];exact h) (k y)
theorem Wd.tail {x:Nat} {l:List Nat} (h:Wd (x :: l)):Wd l:=fun y hy=>h y (List.mem_cons_of_mem _ hy)
theorem Wd.head {x:Nat} {l:List Nat} (h:Wd (x :: l)):x<4294967296:=h x (List.mem_cons_self ..)
theorem Wd.take {l:List Nat} (h:Wd l) (n:Nat):Wd (l.take n):=fun y hy=>h y (List.mem_of_mem_take hy)
theorem Wd.drop {l:List Nat} (h:Wd l) (n:Nat):Wd (l.drop n):=fun y hy=>h y (List.mem_of_mem_drop hy)
theorem Wd.app {a b:List Nat} (h:Wd a) (k:Wd b):Wd (a++b):=fun y hy=>(List.mem_append.1 hy).elim (h y) (k y)
theorem Wd.set {l:List Nat} (h:Wd l) (i x:Nat) (hx:x<4294967296):Wd (l.set i x):=fun y hy=>(List.mem_or_eq_of_mem_set hy).elim (h y) (fun e=>by rw [e];exact hx)
theorem Wd.getD {l:List Nat} (h:Wd l) (i:Nat):l.getD i 0<4294967296:=by
 rw [List.getD_eq_getElem?_getD];cases hi:l[i]? with
 | none=>simp
 | some x=>simpa using h x (List.mem_of_getElem? hi)
theorem Wd.zeros (n:Nat):Wd (List.replicate n 0):=fun y hy=>by have:=List.eq_of_mem_replicate hy;omega
theorem ct:nv []=0:=rfl
theorem cn (x:Nat) (l:List Nat):nv (x :: l)=x+4294967296*nv l:=rfl
theorem mi (a b:List Nat):nv (a++b)=nv a+4294967296^a.length*nv b:=by
 induction a with
 | nil=>simp [nv]
 | cons x a ih=>rw [List.cons_append,cn,cn,ih,List.length_cons,Nat.pow_succ,Nat.mul_add,<-Nat.mul_assoc,Nat.mul_comm 4294967296 (4294967296^a.length)];omega
theorem dw {a:List Nat} (h:Wd a):nv a<4294967296^a.length:=by
 induction a with
 | nil=>simp [nv]
 | cons x a ih =>
  have h1:=ih h.tail;have h2:=h.head;rw [cn,List.length_cons,Nat.pow_succ];omega
theorem lg (n:Nat):nv (List.replicate n 0)=0:=by
 induction n with
 | zero=>rfl
 | succ n ih=>rw [List.replicate_succ,cn,ih]
theorem aq (a:List Nat) (i:Nat):nv (a.take (i+1))=nv (a.take i)+a.getD i 0*4294967296^i:=by
 by_cases h:i<a.length
 ·rw [List.take_succ_eq_append_getElem h,mi,cn,ct,List.length_take,Nat.min_eq_left (Nat.le_of_lt h),Nat.mul_comm];simp [List.getD_eq_getElem?_getD,h]
 ·rw [List.take_of_length_le (by omega),List.take_of_length_le (by omega)];simp [List.getD_eq_getElem?_getD,Nat.le_of_not_lt h]
theorem ar (a:List Nat) (i:Nat) (h:a.length<=i):nv (a.take i)=nv a:=by rw [List.take_of_length_le h]
theorem fA (a:List Nat) (i:Nat) (h:i<=a.length):nv a=nv (a.take i)+4294967296^i*nv (a.drop i):=by
 conv=>lhs;rw [<-List.take_append_drop i a]
 rw [mi,List.length_take,Nat.min_eq_left h]
theorem rp (l:List Nat):∀ (i x:Nat),i<l.length->nv (l.set i x)+l.getD i 0*4294967296^i=nv l+x*4294967296^i:=by
 induction l with
 | nil=>intro i x h;simp at h
 | cons y l ih =>
  intro i x h;cases i with
  | zero=>simp [cn];omega
  | succ i =>
   have:=ih i x (by simpa using h);rw [List.set_cons_succ,cn,cn,List.getD_cons_succ,Nat.pow_succ,<-Nat.mul_assoc,<-Nat.mul_assoc,Nat.mul_comm _ 4294967296,Nat.mul_comm (x*_) 4294967296];omega
theorem bR:nw 0=[]:=by rw [nw];simp
theorem ml {n:Nat} (h:n≠0):nw n=n % 4294967296 :: nw (n / 4294967296):=by rw [nw];simp [h]
theorem dT:∀ n,Wd (nw n):=by
 intro n;induction n using Nat.strongRecOn with
 | _ n ih =>
  by_cases h:n=0
  ·subst h;rw [bR];exact Wd.nil
  ·rw [ml h];exact Wd.cons (Nat.mod_lt _ (by omega)) (ih _ (Nat.div_lt_self (by omega) (by omega)))
theorem ap:∀ n,nv (nw n)=n:=by
 intro n;induction n using Nat.strongRecOn with
 | _ n ih =>
  by_cases h:n=0
  ·subst h;rw [bR];rfl
  ·rw [ml h,cn,ih _ (Nat.div_lt_self (by omega) (by omega))];omega
def Pl (l:List Nat):Prop:=∀ h:l≠[],l.getLast h≠0
theorem xi:∀ {l:List Nat},Wd l->Pl l->nw (nv l)=l:=by
 intro l;induction l with
 | nil=>intro _ _;exact bR
 | cons x l ih =>
  intro hw hp;have hx:=hw.head
  have hne:nv (x :: l)≠0:=by
   rw [cn];by_cases hl:l=[]
   ·subst hl;have:=hp (by simp);simp at this;rw [ct];omega
   ·intro h0;have h1:nv l=0:=by omega
    have h2:=ih hw.tail (fun h=>by have:=hp (by simp);rwa [List.getLast_cons h] at this);rw [h1,bR] at h2;exact hl h2.symm
  rw [ml hne,cn];have e1:(x+4294967296*nv l) % 4294967296=x:=by omega
  have e2:(x+4294967296*nv l) / 4294967296=nv l:=by omega
  rw [e1,e2,ih hw.tail fun h=>by have:=hp (by simp);rwa [List.getLast_cons h] at this]
theorem Bk (n:Nat):Pl (nw n):=by
 induction n using Nat.strongRecOn with
 | _ n ih =>
  by_cases h:n=0
  ·subst h;rw [bR];intro h;exact absurd rfl h
  ·rw [ml h];intro _;have h2:=ih (n / 4294967296) (Nat.div_lt_self (by omega) (by omega));by_cases h3:nw (n / 4294967296)=[]
   ·have h4:n / 4294967296=0:=by have:=ap (n / 4294967296);rw [h3] at this;exact this.symm
    simp [h3];omega
   ·rw [List.getLast_cons h3];exact h2 h3
theorem rq {a:List Nat} (hw:Wd a) {n:Nat} (hn:n<=a.length) (hz:∀ i,n<=i->a.getD i 0=0) (hl:n=0\/a.getD (n - 1) 0≠0):nw (nv a)=a.take n:=by
 have h1:nv a=nv (a.take n):=by
  have:∀ k,nv (a.take (n+k))=nv (a.take n):=by
   intro k;induction k with
   | zero=>rfl
   | succ k ih=>rw [<-Nat.add_assoc,aq,ih,hz (n+k) (by omega),Nat.zero_mul,Nat.add_zero]
  have h2:=this a.length;rw [ar a _ (by omega)] at h2;exact h2
 rw [h1];refine xi (hw.take n) fun h=>?_
 have hpos:0<n:=by
  rcases Nat.eq_zero_or_pos n with rfl | h2
  ·simp at h
  ·exact h2
 have:=hl.resolve_left (by omega);rw [List.getLast_eq_getElem];simp only [List.getElem_take,List.length_take,Nat.min_eq_left hn];rw [List.getD_eq_getElem?_getD,List.getElem?_eq_getElem (by omega)] at this;simpa using this
theorem aI {n k:Nat}:(nw n).length<=k ↔ n<4294967296^k:=by
 constructor
 ·intro h;have h1:=dw (dT n);rw [ap] at h1;exact Nat.lt_of_lt_of_le h1 (Nat.pow_le_pow_right (by omega) h)
 ·intro h;induction k generalizing n with
  | zero=>simp at h;subst h;rw [bR];simp
  | succ k ih =>
   by_cases h0:n=0
   ·subst h0;rw [bR];simp
   ·rw [ml h0,List.length_cons];have:=ih (n:=n / 4294967296) (by rw [Nat.pow_succ] at h;exact Nat.div_lt_of_lt_mul (by rw [Nat.mul_comm];exact h));omega
theorem cQ {n:Nat}:nw n=[] ↔ n=0:=by
 constructor
 ·intro h;have:=ap n;rw [h] at this;exact this.symm
 ·intro h;rw [h];exact bR
theorem tb {a b:List Nat} (ha:Wd a) (hl:a.length=b.length) {k:Nat} (hk:k<a.length) (hd:∀ i,k<i->a.getD i 0=b.getD i 0) (hlt:a.getD k 0<b.getD k 0):nv a<nv b:=by
 have key:∀ j,nv (a.take (k+1+j))<nv (b.take (k+1+j)):=by
  intro j;induction j with
  | zero =>
   rw [Nat.add_zero,aq,aq];have h1:=dw (ha.take k);rw [List.length_take,Nat.min_eq_left (Nat.le_of_lt hk)] at h1;have h2:(a.getD k 0+1)*4294967296^k<=b.getD k 0*4294967296^k:=Nat.mul_le_mul_right _ hlt;rw [Nat.add_mul,Nat.one_mul] at h2;omega
  | succ j ih =>
   rw [<-Nat.add_assoc,aq,aq,hd (k+1+j) (by omega)];omega
 have:=key a.length
 rwa [ar a _ (by omega),ar b _ (by omega)] at this
theorem Bj {a b:List Nat} (hl:a.length=b.length) (hd:∀ i,a.getD i 0=b.getD i 0):a=b:=by
 refine List.ext_getElem hl fun i h1 h2=>?_
 have:=hd i;simpa [List.getD_eq_getElem?_getD,h1,h2] using this
theorem mj {m n:Nat} (h:(nw m).length<(nw n).length):m<n:=by
 have h1:=(aI (n:=m)).1 (Nat.le_refl _);have h2:¬ n<4294967296^(nw m).length:=fun h2=>by have:=aI.2 h2;omega
 omega
theorem fz (s P:Nat):(s % 4294967296)*P+(s / 4294967296)*(4294967296*P)=s*P:=by
 have h:=Nat.div_add_mod s 4294967296
 have h2:(s % 4294967296)*P+(s / 4294967296)*(4294967296*P)=(4294967296*(s / 4294967296)+s % 4294967296)*P:=by
  rw [Nat.add_mul,Nat.mul_comm 4294967296 (s / 4294967296),Nat.mul_assoc];omega
 rw [h2,h]
theorem dH {l:List Nat} {i:Nat} (h:i<l.length) (x:Nat):nv ((l.set i x).take (i+1))=nv (l.take i)+x*4294967296^i:=by
 rw [aq,List.take_set_of_le (Nat.le_refl _)];simp [List.getD_eq_getElem?_getD,h]
theorem eA {l:List Nat} {i:Nat} (h:i<l.length) (x:Nat):(l.set i x).getD i 0=x:=by simp [List.getD_eq_getElem?_getD,h]
theorem c_ {l:List Nat} {i j:Nat} (h:i≠j) (x:Nat):(l.set i x).getD j 0=l.getD j 0:=by simp [List.getD_eq_getElem?_getD,List.getElem?_set_ne h]
theorem mw {O c X Y x y P s:Nat} (h:O+c*P=X+Y) (hs:s=c+x+y):(O+(s % 4294967296)*P)+(s / 4294967296)*(4294967296*P)=(X+x*P)+(Y+y*P):=by
 have h1:=fz s P;have h2:s*P=c*P+x*P+y*P:=by rw [hs,Nat.add_mul,Nat.add_mul]
 omega
theorem tW {O b X Y x y P o b':Nat} (h:O+Y=X+b*P) (hs:o+y+b=x+b'*4294967296):(O+o*P)+(Y+y*P)=(X+x*P)+b'*(4294967296*P):=by
 have h2:(o+y+b)*P=(x+b'*4294967296)*P:=by rw [hs]
 rw [Nat.add_mul,Nat.add_mul,Nat.add_mul,Nat.mul_assoc] at h2;omega
theorem oE {l:List Nat} (h:nv l=0):∀ i,l.getD i 0=0:=by
 induction l with
 | nil=>simp
 | cons x l ih =>
  rw [cn] at h;intro i;cases i with
  | zero=>rw [List.getD_cons_zero];omega
  | succ i=>rw [List.getD_cons_succ];exact ih (by omega) i
theorem dF (l:List Nat) (k i:Nat):(l.drop k).getD i 0=l.getD (k+i) 0:=by simp [List.getD_eq_getElem?_getD]
theorem cr {l:List Nat} {k i:Nat} (h:i<k):(l.take k).getD i 0=l.getD i 0:=by simp [List.getD_eq_getElem?_getD,List.getElem?_take_of_lt h]
theorem ku {l:List Nat} {k:Nat} (h:nv l<4294967296^k):(∀ j,k<=j->l.getD j 0=0)/\nv (l.take k)=nv l:=by
 by_cases hk:k<=l.length
 ·have h1:=fA l k hk
  have h2:nv (l.drop k)=0:=by
   rcases Nat.eq_zero_or_pos (nv (l.drop k)) with h3 | h3
   ·exact h3
   ·have:4294967296^k*1<=4294967296^k*nv (l.drop k):=Nat.mul_le_mul_left _ h3
    omega
  refine ⟨fun j hj=>?_,by rw [h1,h2];omega⟩;have:=oE h2 (j - k)
  rwa [dF,Nat.add_sub_cancel' hj] at this
 ·refine ⟨fun j hj=>?_,ar _ _ (by omega)⟩;simp [List.getD_eq_getElem?_getD,show l.length<=j by omega]
theorem Be {N c M x Y P y w s:Nat} (h:N+c*P=M+x*Y) (hs:s=c+x*y+w):∀ N',N'+w*P=N+(s % 4294967296)*P->N'+(s / 4294967296)*(4294967296*P)=M+x*(Y+y*P):=by
 intro N' hN;have h1:=fz s P;have h2:s*P=c*P+x*(y*P)+w*P:=by rw [hs,Nat.add_mul,Nat.add_mul,Nat.mul_assoc]
 rw [Nat.mul_add];omega
theorem yB {c x y w:Nat} (hc:c<4294967296) (hx:x<4294967296) (hy:y<4294967296) (hw:w<4294967296):c+x*y+w<18446744073709551616:=by
 have:x*y<=4294967295*4294967295:=Nat.mul_le_mul (by omega) (by omega)
 omega
theorem Ap {a b q r:Nat} (h:a=b*q+r) (hr:r<b):a / b=q/\a % b=r:=by
 subst h;constructor
 ·rw [Nat.mul_add_div (by omega),Nat.div_eq_of_lt hr,Nat.add_zero]
 ·rw [Nat.mul_add_mod,Nat.mod_eq_of_lt hr]
theorem aW {l:List Nat} {i:Nat} (h:i<l.length):nv (l.drop i)=l.getD i 0+4294967296*nv (l.drop (i+1)):=by
 rw [List.drop_eq_getElem_cons h,cn];simp [List.getD_eq_getElem?_getD,h]
theorem de {l:List Nat} {i:Nat} (h:l.length<=i):nv (l.drop i)=0:=by rw [List.drop_eq_nil_of_le h];rfl
theorem vT {X Q b rest x cur:Nat} (h:X=b*Q+rest) (hr:rest<b) (hb:b<4294967296) (hx:x<4294967296) (hc:cur=rest*4294967296+x) :
  x+4294967296*X=b*(cur / b+4294967296*Q)+cur % b/\cur % b<b/\cur / b<4294967296/\cur<18446744073709551616:=by
 have h1:=Nat.div_add_mod cur b
 have hcur:cur<b*4294967296:=by
  have:(rest+1)*4294967296<=b*4294967296:=Nat.mul_le_mul_right _ hr
  omega
 have hbb:b*4294967296<=4294967296*4294967296:=Nat.mul_le_mul_right _ (by omega);refine ⟨?_,Nat.mod_lt _ (by omega),Nat.div_lt_of_lt_mul hcur,by omega⟩;rw [Nat.mul_add,show b*(4294967296*Q)=4294967296*(b*Q) by rw [Nat.mul_left_comm]];subst h;omega
theorem DN {N X x n P w y:Nat} (hn:n<32) (hN:N=X*2^n) (hy:y=x*2^n) (hw:w<2^n):∀ N',N'+w*P=N+(w ||| (y % 4294967296))*P+(y / 4294967296)*(4294967296*P)->(w ||| (y % 4294967296))=w+y % 4294967296/\N'=(X+x*P)*2^n:=by
 have hor:(w ||| (y % 4294967296))=w+y % 4294967296:=by
  have e:y % 4294967296=2^n*(x % 2^(32 - n)):=by
   rw [hy,show (4294967296:Nat)=2^n*2^(32 - n) by rw [<-Nat.pow_add,show n+(32 - n)=32 by omega],Nat.mul_comm x,Nat.mul_mod_mul_left]
  rw [e,Nat.or_comm,<-Nat.two_pow_add_eq_or_of_lt hw];omega
 intro N' h;refine ⟨hor,?_⟩;rw [hor,Nat.add_mul] at h;have h1:=fz y P;have h2:(X+x*P)*2^n=N+y*P:=by rw [hN,hy,Nat.add_mul,Nat.mul_assoc,Nat.mul_assoc,Nat.mul_comm P]
 omega
theorem CD {x n y:Nat} (hn:n<32) (hx:x<4294967296) (hy:y=x*2^n):y<18446744073709551616/\y / 4294967296<2^n:=by
 have h2:2^n<=2^31:=Nat.pow_le_pow_right (by omega) (by omega);have h3:y<4294967296*2^n:=by rw [hy];exact (Nat.mul_lt_mul_right (Nat.pow_pos (by omega))).2 hx
 exact ⟨by omega,Nat.div_lt_of_lt_mul h3⟩
theorem xS {a:List Nat} (n i:Nat) (hn:n<32) (hi:i<a.length) (hw:Wd a):((a.getD i 0 ||| a.getD (i+1) 0*4294967296) / 2^n) % 4294967296=(nv a / 2^n / 4294967296^i) % 4294967296:=by
 have hor:(a.getD i 0 ||| a.getD (i+1) 0*4294967296)=a.getD i 0+4294967296*a.getD (i+1) 0:=by
  rw [Nat.or_comm,Nat.mul_comm,show (4294967296:Nat)=2^32 by rfl,<-Nat.two_pow_add_eq_or_of_lt (by have:=hw.getD i;omega)];omega
 have e1:nv a / 2^n / 4294967296^i=nv (a.drop i) / 2^n:=by
  rw [Nat.div_div_eq_div_mul,Nat.mul_comm,<-Nat.div_div_eq_div_mul,fA a i (Nat.le_of_lt hi),Nat.add_mul_div_left _ _ (Nat.pow_pos (by omega))];have:=dw (hw.take i);rw [List.length_take,Nat.min_eq_left (Nat.le_of_lt hi)] at this;rw [Nat.div_eq_of_lt this,Nat.zero_add]
 rw [e1,hor,aW hi]
 obtain ⟨z,hz⟩:∃ z,nv (a.drop (i+1))=a.getD (i+1) 0+4294967296*z:=by
  by_cases h:i+1<a.length
  ·exact ⟨_,aW h⟩
  ·refine ⟨0,?_⟩;rw [de (by omega)];simp [List.getD_eq_getElem?_getD,show a.length<=i+1 by omega]
 rw [hz,Nat.mul_add,<-Nat.add_assoc]
 have e2:4294967296*(4294967296*z)=2^n*(4294967296*(2^(32 - n)*z)):=by
  rw [<-Nat.mul_assoc,<-Nat.mul_assoc,Nat.mul_comm (2^n) 4294967296,<-Nat.mul_assoc,Nat.mul_assoc 4294967296 (2^n),<-Nat.pow_add,show n+(32 - n)=32 by omega]
 rw [e2,Nat.add_mul_div_left _ _ (Nat.pow_pos (by omega)),Nat.add_mul_mod_self_left]
theorem kZ (x i:Nat):x % 4294967296^(i+1)=x % 4294967296^i+(x / 4294967296^i % 4294967296)*4294967296^i:=by
 rw [Nat.pow_succ,Nat.mod_mul,Nat.mul_comm (4294967296^i)]
theorem sB {V W top head P:Nat} (hV:top*P<=V) (hW:W<(head+1)*P) (ht:0<top):W / V<=head / top:=by
 rw [Nat.le_div_iff_mul_le ht];rcases Nat.eq_zero_or_pos V with rfl | hpos
 ·simp
 have h1:W / V*(top*P)<=W / V*V:=Nat.mul_le_mul_left _ hV;have h2:W / V*V<=W:=Nat.div_mul_le_self W V;have h3:W / V*top*P<(head+1)*P:=by rw [Nat.mul_assoc];omega
 have h4:=Nat.lt_of_mul_lt_mul_right h3;omega
theorem yd {V W V2 head3 guess P:Nat} (hV:V2*P<=V) (hW:W<(head3+1)*P) (hg:head3<guess*V2):W / V<guess:=by
 rcases Nat.eq_zero_or_pos V with rfl | hpos
 ·simp;rcases Nat.eq_zero_or_pos guess with rfl | h
  ·simp at hg
  ·exact h
 rw [Nat.div_lt_iff_lt_mul hpos];have h1:guess*(V2*P)<=guess*V:=Nat.mul_le_mul_left _ hV;have h2:(head3+1)*P<=guess*V2*P:=Nat.mul_le_mul_right _ hg;rw [Nat.mul_assoc] at h2;omega
theorem AG {V W V2 head3 guess P:Nat} (hV:V<(V2+1)*P) (hW:head3*P<=W) (hg:guess*V2<=head3) (hb:guess*P<=V) (hpos:0<V):guess<=W / V+1:=by
 have h1:guess*V<=guess*((V2+1)*P):=Nat.mul_le_mul_left _ (Nat.le_of_lt hV);have h2:guess*V2*P<=head3*P:=Nat.mul_le_mul_right _ hg;have h3:guess*((V2+1)*P)=guess*V2*P+guess*P:=by rw [Nat.add_mul,Nat.one_mul,Nat.mul_add,Nat.mul_assoc]
 have h4:guess*V<=W+V:=by omega
 have h5:guess<=(W+V) / V:=(Nat.le_div_iff_mul_le hpos).2 h4
 rwa [Nat.add_div_right _ hpos] at h5
theorem At {head top next u2 guess rest:Nat} (h:guess*top+rest=head) (hg:4294967296<=guess\/rest*4294967296+u2<guess*next):head*4294967296+u2<guess*(top*4294967296+next)\/4294967296<=guess:=by
 rcases hg with hg | hg
 ·exact .inr hg
 ·refine .inl ?_;subst h;rw [Nat.mul_add,Nat.add_mul,<-Nat.mul_assoc,Nat.add_assoc];exact Nat.add_lt_add_left hg _
theorem sq {head top next u2 guess rest:Nat} (h:guess*top+rest=head) (hg:guess*next<=rest*4294967296+u2):guess*(top*4294967296+next)<=head*4294967296+u2:=by
 subst h;rw [Nat.mul_add,Nat.add_mul,<-Nat.mul_assoc];omega
theorem xU {head top next u2 guess rest:Nat} (h:guess*top+rest=head) (hr:4294967296<=rest) (hh:head<(top+1)*4294967296) (hn:next<4294967296) (_ht:0<top):guess<4294967296/\guess*(top*4294967296+next)<=head*4294967296+u2:=by
 have hg:guess<4294967296:=by
  have h1:guess*top<4294967296*top:=by rw [Nat.add_mul] at hh;omega
  exact Nat.lt_of_mul_lt_mul_right h1
 refine ⟨hg,sq h ?_⟩;have h2:guess*next<=4294967296*next:=Nat.mul_le_mul_right _ (Nat.le_of_lt hg);omega
theorem zq {O X Y x y n P b c s o b':Nat} (h:O+n*Y=X+b*P+c*P) (hs:s=c+n*y) (ho:o+s % 4294967296+b=x+b'*4294967296) :
  (O+o*P)+n*(Y+y*P)=(X+x*P)+b'*(4294967296*P)+(s / 4294967296)*(4294967296*P):=by
 have h1:=fz s P;have h2:s*P=c*P+n*(y*P):=by rw [hs,Nat.add_mul,Nat.mul_assoc]
 have h3:(o+s % 4294967296+b)*P=(x+b'*4294967296)*P:=by rw [ho]
 rw [Nat.add_mul,Nat.add_mul,Nat.add_mul,Nat.mul_assoc] at h3;rw [Nat.mul_add];omega
theorem xR {V W guess U b M:Nat} (hpos:0<V) (hU:U+guess*V=W+b*M) (hUM:U<M) (_hVM:V<=M) (hb:b<=1) (h1:W / V<=guess) (h2:guess<=W / V+1) :
  (b=0->guess=W / V/\U=W % V)/\(b=1->guess=W / V+1/\U+V=W % V+M):=by
 have hd:=Nat.div_add_mod W V;have hm:=Nat.mod_lt W hpos;have e1:(W / V)*V=V*(W / V):=Nat.mul_comm ..;have e2:(W / V+1)*V=V*(W / V)+V:=by rw [Nat.add_mul,Nat.one_mul,e1]
 constructor
 ·intro h0;subst h0
  have hg:guess=W / V:=by
   rcases Nat.lt_or_ge (W / V) guess with h | h
   ·have:guess=W / V+1:=by omega
    rw [this,e2] at hU;omega
   ·omega
  refine ⟨hg,?_⟩;rw [hg,e1] at hU;omega
 ·intro h0;subst h0
  have hg:guess=W / V+1:=by
   rcases Nat.lt_or_ge (W / V) guess with h | h
   ·omega
   ·have:guess=W / V:=by omega
    rw [this,e1] at hU;omega
  refine ⟨hg,?_⟩;rw [hg,e2] at hU;omega
theorem qj {U V R Q u0:Nat} (h:U=V*Q+R) (x:Nat) (hx:x=u0+4294967296*R):u0+4294967296*U=V*(x / V+4294967296*Q)+x % V:=by
 have hd:=Nat.div_add_mod x V;rw [Nat.mul_add,show V*(4294967296*Q)=4294967296*(V*Q) by rw [Nat.mul_left_comm]];subst h;omega
theorem qG {a b q r n:Nat} (h:a*2^n=b*2^n*q+r) (hr:r<b*2^n):a / b=q/\r / 2^n=a % b:=by
 have hp:0<2^n:=Nat.pow_pos (by omega)
 obtain ⟨r',rfl⟩:∃ r',r=2^n*r':=by
  refine ⟨a - b*q,?_⟩;rw [Nat.mul_sub,Nat.mul_comm (2^n) a,h,show 2^n*(b*q)=b*2^n*q by rw [<-Nat.mul_assoc,Nat.mul_comm (2^n) b]];omega
 have h1:a=b*q+r':=by
  have:2^n*a=2^n*(b*q+r'):=by rw [Nat.mul_comm,h,Nat.mul_add,<-Nat.mul_assoc,Nat.mul_comm (2^n) b]
  exact Nat.eq_of_mul_eq_mul_left hp this
 have h2:r'<b:=by rw [Nat.mul_comm b] at hr;exact Nat.lt_of_mul_lt_mul_left hr
 obtain ⟨h3,h4⟩:=Ap h1 h2;exact ⟨h3,by rw [Nat.mul_div_cancel_left _ hp,h4]⟩
theorem qK {l:List Nat} (hw:Wd l) {m:Nat} (hm:l.length=m+2):nv l=nv (l.take m)+4294967296^m*(l.getD m 0+4294967296*l.getD (m+1) 0)/\(l.getD m 0+4294967296*l.getD (m+1) 0)*4294967296^m<=nv l/\nv l<(l.getD m 0+4294967296*l.getD (m+1) 0+1)*4294967296^m:=by
 have h1:=fA l m (by omega);rw [aW (by omega),aW (by omega),de (by omega)] at h1;simp only [Nat.mul_zero,Nat.add_zero] at h1;have h2:=dw (hw.take m);rw [List.length_take,Nat.min_eq_left (by omega)] at h2;refine ⟨h1,by rw [h1,Nat.mul_comm];omega,?_⟩;rw [Nat.add_mul,Nat.one_mul,Nat.mul_comm _ (4294967296^m)];omega
theorem fH {l:List Nat} (hw:Wd l) {m:Nat} (hm:l.length=m+1):nv l=nv (l.take m)+4294967296^m*l.getD m 0/\l.getD m 0*4294967296^m<=nv l/\nv l<(l.getD m 0+1)*4294967296^m:=by
 have h1:=fA l m (by omega);rw [aW (by omega),de (by omega)] at h1;simp only [Nat.mul_zero,Nat.add_zero] at h1;have h2:=dw (hw.take m);rw [List.length_take,Nat.min_eq_left (by omega)] at h2;refine ⟨h1,by rw [h1,Nat.mul_comm];omega,?_⟩;rw [Nat.add_mul,Nat.one_mul,Nat.mul_comm _ (4294967296^m)];omega
structure Rw where
 neg:Bool
 num:List Nat
 den:List Nat
deriving DecidableEq
instance:Inhabited Rw:=⟨⟨false,[],[]⟩⟩
def Rw.Ok (r:Rw):Prop:=Wd r.num/\Wd r.den
def bG (a:List Nat):Bool:=decide (0<a.length)&&(a.getD (a.length - 1) 0 != 0)
theorem gZ {a:List Nat}:bG a=true ↔ a≠[]/\Pl a:=by
 unfold bG Pl;cases a with
 | nil=>simp
 | cons x l =>
  simp only [List.length_cons,Nat.zero_lt_succ,decide_true,Bool.true_and,ne_eq,reduceCtorEq,not_false_eq_true,true_and,List.getD_eq_getElem?_getD];constructor
  ·intro h _;rw [List.getLast_eq_getElem];simpa using h
  ·intro h;have:=h (by simp);rw [List.getLast_eq_getElem] at this;simpa using this
def bn (r:Rw):Bool:=if r.num=[]/\r.den=[] then !r.neg else bG r.num&&bG r.den&&(Nat.gcd (nv r.num) (nv r.den) == 1)
def sg (neg:Bool) (n:Nat):Int:=if neg=true then -(n:Int) else n
theorem rJ (neg:Bool) (n:Nat):(sg neg n).natAbs=n:=by unfold sg;split <;> simp
theorem nH (neg:Bool):sg neg 0=0:=by unfold sg;split <;> simp
def ag (r:Rw):Bool × List Nat × List Nat:=if bn r=true/\r.num≠[] then (r.neg,r.num,r.den) else (false,[],[1])
def aj (r:Rw):Rat:=mkRat (sg (ag r).1 (nv (ag r).2.1)) (nv (ag r).2.2)
theorem oC {a:List Nat} (hw:Wd a) (h:bG a=true):nv a≠0:=by
 obtain ⟨h1,h2⟩:=gZ.1 h;intro h3;have:=xi hw h2;rw [h3,bR] at this;exact h1 this.symm
theorem td {n:Nat} (h:n≠0):bG (nw n)=true:=gZ.2 ⟨fun e=>h (cQ.1 e),Bk n⟩
theorem ay {r:Rw} (h:r.Ok):Wd (ag r).2.1/\Wd (ag r).2.2/\nv (ag r).2.2≠0/\Pl (ag r).2.1/\Pl (ag r).2.2:=by
 unfold ag;split
 ·rename_i hv;obtain ⟨hv,hn⟩:=hv;unfold bn at hv;rw [if_neg (fun e=>hn e.1)] at hv;simp only [Bool.and_eq_true] at hv;exact ⟨h.1,h.2,oC h.2 hv.1.2,(gZ.1 hv.1.1).2,(gZ.1 hv.1.2).2⟩
 ·exact ⟨Wd.nil,Wd.cons (by omega) Wd.nil,by simp [nv],fun h=>absurd rfl h,fun _=>by simp⟩
def ah (q:Rat):Rw:=if q.num=0 then ⟨false,[],[]⟩ else ⟨decide (q.num<0),nw q.num.natAbs,nw q.den⟩
def gp (neg:Bool) (n d:Nat):Rw:=if n=0 then ⟨false,[],[]⟩ else ⟨neg,nw (n / Nat.gcd n d),nw (d / Nat.gcd n d)⟩
theorem bV (neg:Bool) (n d:Nat) (hd:d≠0):gp neg n d=ah (mkRat (sg neg n) d):=by
 unfold gp ah;have e1:(mkRat (sg neg n) d).num=sg neg n / (d.gcd n:Nat):=by rw [Rat.num_mkRat,if_neg hd,rJ]
 have e2:(mkRat (sg neg n) d).den=d / Nat.gcd n d:=by rw [Rat.den_mkRat,if_neg hd,rJ,Nat.gcd_comm]
 have hg:0<Nat.gcd n d:=Nat.gcd_pos_of_pos_right _ (by omega);have hdv:Nat.gcd n d ∣ n:=Nat.gcd_dvd_left ..
 have e3:sg neg n / (d.gcd n:Nat)=sg neg (n / Nat.gcd n d):=by
  rw [Nat.gcd_comm];unfold sg;split
  ·rw [Int.neg_ediv_of_dvd (Int.natCast_dvd_natCast.2 hdv),<-Int.natCast_ediv]
  ·rw [<-Int.natCast_ediv]
 rw [e1,e2,e3];by_cases h0:n=0
 ·subst h0;simp [nH]
 ·have hne:n / Nat.gcd n d≠0:=by
   have:=Nat.div_pos (Nat.le_of_dvd (by omega) hdv) hg;omega
  have h1:sg neg (n / Nat.gcd n d)≠0:=by unfold sg;split <;> omega
  rw [if_neg h0,if_neg h1,rJ];congr 1;obtain ⟨m,hm⟩:∃ m,m=n / Nat.gcd n d:=⟨_,rfl⟩;rw [<-hm] at hne⊢;unfold sg;cases neg with
  | true=>simp;omega
  | false=>simp
theorem bD (q:Rat):(ah q).Ok:=by
 unfold ah;split
 ·exact ⟨Wd.nil,Wd.nil⟩
 ·exact ⟨dT _,dT _⟩
theorem gL (q:Rat):bn (ah q)=true:=by
 unfold ah;split
 ·rfl
 ·rename_i h;unfold bn;rw [if_neg (fun e=>by have:=cQ.1 e.1;omega)];rw [td (by omega),td q.den_nz,ap,ap];have:=q.reduced;unfold Nat.Coprime at this;simp [this]
theorem al (q:Rat):aj (ah q)=q:=by
 unfold aj ag;rw [gL];unfold ah;split
 ·rename_i h;simp only [ne_eq,not_true_eq_false,and_false,if_false];rw [ct,nH,Rat.zero_mkRat];exact (Rat.num_eq_zero.1 h).symm
 ·rename_i h;rw [if_pos ⟨rfl,fun e=>by have:=cQ.1 e;omega⟩];simp only [ap]
  have e:sg (decide (q.num<0)) q.num.natAbs=q.num:=by
   unfold sg;by_cases h2:q.num<0
   ·simp [h2];omega
   ·simp [h2];omega
  rw [e,Rat.mkRat_self]
theorem jj:ah 0=⟨false,[],[]⟩:=rfl
theorem EU (s:Bool) (a b:Nat):sg s (a+b)=sg s a+sg s b:=by unfold sg;split <;> omega
theorem EV (s t:Bool) (a b:Nat):sg (s != t) (a*b)=sg s a*sg t b:=by
 unfold sg;cases s <;> cases t <;> simp [Int.neg_mul,Int.mul_neg]
theorem EW (s:Bool) (a:Nat):sg (!s) a=- sg s a:=by unfold sg;cases s <;> simp
theorem EY {s t:Bool} (h:s≠t) {a b:Nat} (hab:b<=a):sg s (a - b)=sg s a+sg t b:=by
 unfold sg;cases s <;> cases t <;> simp at h⊢ <;> omega
theorem DC {s t:Bool} (h:s≠t) {a b:Nat} (hab:a<=b):sg t (b - a)=sg s a+sg t b:=by
 unfold sg;cases s <;> cases t <;> simp at h⊢ <;> omega
theorem gD (s:Bool) (a b:Nat):sg s (a*b)=sg s a*(b:Int):=by unfold sg;split <;> simp [Int.neg_mul]
def f' (x:Nat):Value:=.int .u32 (x:Int)
def WdsAt (w:World) (v:Value) (xs:List Nat):Prop :=
 ∃ (a:Option Addr) (c:Nat),v=.slice a xs.length c/\(xs.length<=c/\(a=none->c=0))/\xs.length<=1099511627776/\Wd xs /\
  ∀ i (_:i<xs.length),∃ b o,a=some ⟨b,o,none⟩/\w.cell? ⟨b,o+i,none⟩=some (.int .u32 ((xs.getD i 0:Nat):Int))
theorem WdsAt.kept {w w':World} {v:Value} {xs:List Nat} (h:WdsAt w v xs) (hk:af w w'):WdsAt w' v xs:=by
 obtain ⟨a,c,h1,h2,h3,h4,h5⟩:=h;exact ⟨a,c,h1,h2,h3,h4,fun i hi=>let ⟨b,o,h6,h7⟩:=h5 i hi;⟨b,o,h6,hk.cell h7⟩⟩
theorem WdsAt.wd {w:World} {v:Value} {xs:List Nat} (h:WdsAt w v xs):Wd xs:=by obtain ⟨_,_,_,_,_,h,_⟩:=h;exact h
theorem WdsAt.len {w:World} {v:Value} {xs:List Nat} (h:WdsAt w v xs):xs.length<=1099511627776:=by obtain ⟨_,_,_,_,h,_⟩:=h;exact h
theorem WdsAt.shape {w:World} {v:Value} {xs:List Nat} (h:WdsAt w v xs):∃ a c,v=.slice a xs.length c:=by obtain ⟨a,c,h,_⟩:=h;exact ⟨a,c,h⟩
theorem WdsAt.nil (w:World):WdsAt w (.slice none 0 0) []:=⟨none,0,rfl,⟨by simp,fun _=>rfl⟩,by simp,Wd.nil,fun i h=>by simp at h⟩
theorem WdsAt.get {w:World} {a:Option Addr} {n c:Nat} {xs:List Nat} (h:WdsAt w (.slice a n c) xs) (i:Nat) (hi:i<xs.length):∃ b o,a=some ⟨b,o,none⟩/\w.cell? ⟨b,o+i,none⟩=some (.int .u32 ((xs.getD i 0:Nat):Int)):=by
 obtain ⟨a',c',h1,_,_,_,h5⟩:=h;injection h1 with h1
 subst h1;exact h5 i hi
theorem WdsAt.take {w:World} {a:Option Addr} {n c:Nat} {xs:List Nat} (h:WdsAt w (.slice a n c) xs) (k:Nat) (hk:k<=xs.length):WdsAt w (.slice a k c) (xs.take k):=by
 obtain ⟨a',c',h1,h2,h3,h4,h5⟩:=h;injection h1 with h1 h6 h7
 subst h1 h7;have hl:(xs.take k).length=k:=by rw [List.length_take];omega
 refine ⟨a,c,by rw [hl],⟨by omega,h2.2⟩,by omega,h4.take k,fun i hi=>?_⟩;obtain ⟨b,o,h8,h9⟩:=h5 i (by omega);exact ⟨b,o,h8,by rw [cr (by omega)];exact h9⟩
theorem WdsAt.drop {w:World} {b o n c:Nat} {xs:List Nat} (h:WdsAt w (.slice (some ⟨b,o,none⟩) n c) xs) (k:Nat) (hk:k<=xs.length):WdsAt w (.slice (some ⟨b,o+k,none⟩) (n - k) (c - k)) (xs.drop k):=by
 obtain ⟨a',c',h1,h2,h3,h4,h5⟩:=h;injection h1 with h1 h6 h7
 subst h1 h7;have hl:(xs.drop k).length=n - k:=by rw [List.length_drop];omega
 refine ⟨_,c - k,by rw [hl],⟨by omega,fun h=>by cases h⟩,by omega,h4.drop k,fun i hi=>⟨b,o+k,rfl,?_⟩⟩;obtain ⟨b2,o2,h8,h9⟩:=h5 (k+i) (by omega);cases h8;rw [dF,Nat.add_assoc];exact h9
def a_ (w:World) (B:Nat) (v:Value) (xs:List Nat):Prop :=
 w.ownsRow B 70 1 v xs.length (xs.map f')/\xs.length<=1099511627776/\Wd xs
theorem a_.at {w:World} {B:Nat} {v:Value} {xs:List Nat} (h:a_ w B v xs):WdsAt w v xs:=by
 obtain ⟨⟨h1,h2⟩,h3,h3'⟩:=h;rcases h2 with ⟨rfl,h4⟩ | ⟨g,cap,cur,rfl,h5,h6,h7,h8,h9,h10⟩
 ·have:xs=[]:=List.eq_nil_of_length_eq_zero h4
  subst this;exact WdsAt.nil w
 ·refine ⟨_,cap,rfl,⟨h7,fun h=>by cases h⟩,h3,h3',fun i hi=>⟨g,0,rfl,?_⟩⟩;have e1:(cur.toList.take (xs.length*1))[i]?=(xs.map f')[i]?:=by rw [h10]
  rw [List.getElem?_take_of_lt (by omega)] at e1;simp only [World.cell?,h6,Nat.zero_add];simpa [hi,f',List.getD_eq_getElem?_getD] using e1
theorem a_.kept {w w':World} {B:Nat} {v:Value} {xs:List Nat} (h:a_ w B v xs) (hb:af w w'):a_ w' B v xs:=⟨eF h.1 hb,h.2⟩
theorem a_.nil (w:World) (B:Nat):a_ w B (.slice none 0 0) []:=⟨World.ownsRow_nil _ _ _ _,by simp,Wd.nil⟩
theorem a_.mono {w:World} {B B':Nat} {v:Value} {xs:List Nat} (h:a_ w B v xs) (hb:B'<=B):a_ w B' v xs:=⟨lh h.1 hb,h.2⟩
theorem ci (w:World) (B:Nat) (hB:B<=w.heap.size):a_ (w.alloc (.cells #[] 70)) B (.slice (some ⟨w.heap.size,0,none⟩) 0 0) [] :=
 ⟨⟨by simp,.inr ⟨w.heap.size,0,#[],rfl,hB,heap_alloc_new w _,Nat.le_refl _,by unfold maxLen;omega,by simp,by simp⟩⟩,by simp,Wd.nil⟩
theorem cM:(Tryz.prog.info? 70).map (fun i=>(i.zero,i.size,i.bytes))=some (some (.int .u32 0),1,4):=by kernel_rfl
theorem qU {ops:Array Oper} {rest:List Oper} {o:Oper} {a:Act} {Q:Exit->Act->World->Prop} {w:World} (hgd:o.guard=none) (s x:Operand)
  (ho:o.op=.call { callee:=.builtin .append,args:=#[s,x],argTypes:=#[27,27] }) (B:Nat) (v:Value) (xs:List Nat) (hs:a.eval s=v) (hown:a_ w B v xs)
  (u:Value) (ys:List Nat) (hx:a.eval x=u) (hu:WdsAt w u ys) (hl:xs.length+ys.length<=1099511627776) (hB:B<=w.heap.size)
  (h:∀ v' w',a_ w' B v' (xs++ys)->Below B w w'->wpList Tryz.prog ops Q rest (a.put o.dst v') w'):wpList Tryz.prog ops Q (o :: rest) a w:=by
 obtain ⟨i0,hi0,hz0,hz1,hz2⟩:=info_parts cM;obtain ⟨ad,c,rfl,⟨hc,hcn⟩,hl2,hw,hcell⟩:=hu;cases ad with
 | none =>
  have hy:ys=[]:=by
   cases ys with
   | nil=>rfl
   | cons y ys=>obtain ⟨b,o,h,_⟩:=hcell 0 (by simp);cases h
  subst hy;rw [hcn rfl] at hx;refine wpList_append_own_none hgd s x 27 ho B 70 i0 1 Tryz.underlying27 hi0 v xs.length _ hs hown.1 hx ?_;exact h v w (by simpa using hown) (Below.refl _ _)
 | some ad =>
  refine wpList_append_own _ hgd s x 27 ho B 70 i0 _ 1 4 Tryz.underlying27 hi0 hz0 hz1 hz2 rfl (by decide) v xs.length _ hs hown.1 ad ys.length c (ys.map f') hx (by simp) ?_ ?_ (by simp [maxLen];omega) (by omega) hB ?_
  ·intro j u hj
   have hj':j<ys.length:=by
    rcases Nat.lt_or_ge j ys.length with h | h
    ·exact h
    ·rw [List.getElem?_eq_none (by simpa using h)] at hj;cases hj
   obtain ⟨b,o,h5,h6⟩:=hcell j hj';cases h5;simp [hj',f'] at hj;subst hj;rw [show ({ block:=b,off:=o }:Addr).add j=⟨b,o+j,none⟩ by unfold Addr.add;split <;> simp_all,h6];simp [List.getD_eq_getElem?_getD,hj']
  ·intro u hu;obtain ⟨y,_,rfl⟩:=List.mem_map.1 hu;rfl
  ·intro v' w' h5 h6 _;exact h v' w' ⟨by simpa using h5,by simp;omega,hown.2.2.app hw⟩ (bf h6 hown.1 hB)
theorem jV {ops:Array Oper} {rest:List Oper} {o:Oper} {a:Act} {Q:Exit->Act->World->Prop} {w:World} (hgd:o.guard=none) (s x:Operand)
  (ho:o.op=.call { callee:=.builtin .append,args:=#[s,x],argTypes:=#[27,27] }) (B:Nat) (v:Value) (xs:List Nat) (hs:a.eval s=v) (hown:a_ w B v xs)
  (ad:Addr) (y:Nat) (hx:a.eval x=.slice (some ad) 1 1) (hc:w.cell? ad=some (.int .u32 (y:Int))) (hy:y<4294967296) (hl:xs.length<1099511627776) (hB:B<=w.heap.size)
  (h:∀ v' w',a_ w' B v' (xs++[y])->Below B w w'->wpList Tryz.prog ops Q rest (a.put o.dst v') w'):wpList Tryz.prog ops Q (o :: rest) a w:=by
 refine nt 27 70 _ 4 cM Tryz.underlying27 rfl hgd s x ho B v (xs.map f') hs (by simpa using hown.1) ad _ hx hc rfl (by simp;omega) (by simp [maxLen];omega) hB ?_;intro v' w' h2 h3 h4;exact h v' w' ⟨by simpa [f'] using h2,by simp;omega,hown.2.2.app (Wd.cons hy Wd.nil)⟩ h4
theorem eW {w:World} {g:Nat} {xs:List Nat} {c:Nat} (h:ai w g 70 (xs.map f')) (hc:xs.length<=c) (hl:xs.length<=1099511627776) (hw:Wd xs):WdsAt w (.slice (some ⟨g,0,none⟩) xs.length c) xs :=
 ⟨_,c,rfl,⟨hc,fun h=>by cases h⟩,hl,hw,fun i hi=>⟨g,0,rfl,by have:=h.cell (i:=i) (by simpa using hi);simpa [f',List.getD_eq_getElem?_getD,hi] using this⟩⟩
theorem bj {w:World} {g:Nat} {xs:List Nat} (h:ai w g 70 (xs.map f')) (i x:Nat):ai (w.setCell ⟨g,i,none⟩ (.int .u32 (x:Int))) g 70 ((xs.set i x).map f'):=by
 have:=h.store i (f' x)
 rwa [<-List.map_set] at this
theorem bk {w:World} {g:Nat} {xs:List Nat} (h:ai w g 70 (xs.map f')) (i:Nat) (hi:i<xs.length):w.cell? ⟨g,i,none⟩=some (.int .u32 ((xs.getD i 0:Nat):Int)):=by
 have:=h.cell (i:=i) (by simpa using hi);simpa [f',List.getD_eq_getElem?_getD,hi] using this
theorem ee (v:Value) (xs:List Nat) (i:Nat) (w:World) (hv:WdsAt w v xs):Calls Tryz.prog 239 #[v,.int .i64 i] w fun e w'=>e=.returned (.int .u64 ((xs.getD i 0:Nat):Int))/\w=w':=by
 obtain ⟨a,c,rfl⟩:=hv.shape;have hl:=hv.len;obtain ⟨n,hn⟩:∃ n,n=xs.length:=⟨_,rfl⟩;rw [<-hn] at hv hl⊢;by_cases h:i<n
 ·obtain ⟨b,o,rfl,hc⟩:=hv.get i (by omega);have hx:=hv.wd.getD i;obtain ⟨x,hx2⟩:∃ x,x=xs.getD i 0:=⟨_,rfl⟩;rw [<-hx2] at hc hx⊢;have hi:(i:Int)<(n:Int):=by omega
  clear hv hn hx2;go_enter Tryz.func239,Tryz.ntmps239;go_wp2;go_ret;exact ⟨rfl,rfl⟩
 ·have e:xs.getD i 0=0:=by simp [List.getD_eq_getElem?_getD,show xs.length<=i by omega]
  rw [e];have hi:¬ (i:Int)<(n:Int):=by omega
  clear hv hn e;go_enter Tryz.func239,Tryz.ntmps239;go_wp2;go_ret;exact ⟨rfl,rfl⟩
theorem cz (v:Value) (xs:List Nat) (i:Nat) (w:World) (hv:WdsAt w v xs):Calls Tryz.prog 226 #[v,.int .i64 i] w fun e w'=>e=.returned (.int .u64 ((xs.getD i 0:Nat):Int))/\w=w':=by
 obtain ⟨a,c,rfl⟩:=hv.shape;have hl:=hv.len;obtain ⟨n,hn⟩:∃ n,n=xs.length:=⟨_,rfl⟩;rw [<-hn] at hv hl⊢;by_cases h:i<n
 ·obtain ⟨b,o,rfl,hc⟩:=hv.get i (by omega);have hx:=hv.wd.getD i;obtain ⟨x,hx2⟩:∃ x,x=xs.getD i 0:=⟨_,rfl⟩;rw [<-hx2] at hc hx⊢;have hi:(i:Int)<(n:Int):=by omega
  clear hv hn hx2;go_enter Tryz.func226,Tryz.ntmps226;go_wp2;go_ret;exact ⟨rfl,rfl⟩
 ·have e:xs.getD i 0=0:=by simp [List.getD_eq_getElem?_getD,show xs.length<=i by omega]
  rw [e];have hi:¬ (i:Int)<(n:Int):=by omega
  clear hv hn e;go_enter Tryz.func226,Tryz.ntmps226;go_wp2;go_ret;exact ⟨rfl,rfl⟩
theorem bh (v:Value) (xs:List Nat) (w:World) (hv:WdsAt w v xs):Calls Tryz.prog 116 #[v] w fun e w'=>(∃ v',e=.returned v'/\WdsAt w' v' (nw (nv xs)))/\af w w':=by
 obtain ⟨a,c,rfl⟩:=hv.shape;have hl:=hv.len;have HV:=ae hv;obtain ⟨n,hn⟩:∃ n,n=xs.length:=⟨_,rfl⟩;have HN:=ae hn;rw [<-hn] at hl⊢;have HV2:Hid (WdsAt w (.slice a n c) xs):=ae (by rw [hn];exact HV.out);clear hv hn HV;go_enter Tryz.func116,Tryz.ntmps116;go_wp2;go_loopg [3] n (fun kx s3 wr=>∃ k:Nat,s3=.int .i64 k/\k<=n/\k<=kx/\Hid (∀ i,k<=i->xs.getD i 0=0)/\w=wr)
 case atStart=>exact ⟨n,rfl,Nat.le_refl _,Nat.le_refl _,ae (fun i hi=>by have:=HN.out;simp [List.getD_eq_getElem?_getD,show xs.length<=i by omega]),rfl⟩
 case round =>
  obtain ⟨k,rfl,hk,hkx,HZ,rfl⟩:=hrel;by_cases hk0:k=0
  ·have e0:nw (nv xs)=[]:=by
    rw [rq HV2.out.wd (Nat.zero_le _) (fun i hi=>HZ.out i (by omega)) (.inl rfl)];rfl
   subst hk0;go_wp2;go_ret;exact ⟨⟨_,rfl,by rw [e0];exact WdsAt.nil _⟩,af.refl _⟩
  ·obtain ⟨j,rfl⟩:∃ j,k=j+1:=⟨k - 1,by omega⟩;obtain ⟨b,o,rfl,hc⟩:=HV2.out.get j (by have:=HN.out;omega);obtain ⟨x,hx2⟩:∃ x,x=xs.getD j 0:=⟨_,rfl⟩;rw [<-hx2] at hc;have hp:((j+1:Nat):Int) > 0:=by omega
   have hj:((j+1:Nat):Int) - 1=(j:Int):=by omega
   have hjn:(j:Int)<(n:Int):=by omega
   by_cases hx0:x=0
   ·have hb:((x:Int) == 0)=true:=by simp [hx0]
    have HX:=ae (hx2.symm.trans hx0);clear hx2 hx0;go_wp2;go_roundg j
    case measure=>omega
    case rel=>exact ⟨j,rfl,by omega,Nat.le_refl _,ae (fun i hi=>by
     by_cases h:i=j
     ·rw [h];exact HX.out
     ·exact HZ.out i (by omega)),rfl⟩
   ·have hb:((x:Int) == 0)=false:=by simp;exact hx0
    have hle:j+1<=xs.length:=by have:=HN.out;omega
    have e0:nw (nv xs)=xs.take (j+1):=rq HV2.out.wd hle HZ.out (.inr (by rw [Nat.add_sub_cancel,<-hx2];exact hx0));have HT:=ae (HV2.out.take (j+1) hle);have hlt:(xs.take (j+1)).length=j+1:=by rw [List.length_take];omega
    have HLT:=ae hlt;obtain ⟨m,hm⟩:∃ m,m=j+1:=⟨_,rfl⟩;rw [<-hm] at HT HLT hp hj hk e0;have E0:=ae e0;have hmc:m<=c:=by obtain ⟨_,_,h1,h2,_⟩:=HT.out;injection h1 with _ h3 h4;have:=HLT.out;omega
    have hneq:((m:Int) == 0)=false:=by simp;omega
    rw [<-hm];clear hx2 hx0 e0 hlt hm hle;go_wp2_with (at_builtin;refine qU rfl _ _ rfl w.heap.size _ [] rfl (ci w _ (Nat.le_refl _)) _ _ rfl (HT.out.kept ((af.refl _).alloc _)) (by have:=HLT.out;simp;omega) (by simp) ?_;intro v7 w7 hown7 hb7;have O7:=ae hown7;have HB7:=ae hb7;clear hown7 hb7);go_ret;exact ⟨⟨_,rfl,by rw [E0.out];have:=O7.out.at;simpa using this⟩,((af.refl _).alloc _).app HB7.out⟩
theorem dq (v:Value) (xs:List Nat) (w:World) (hv:WdsAt w v xs):Calls Tryz.prog 227 #[v] w fun e w'=>(∃ v',e=.returned v'/\a_ w' w.heap.size v' (nw (nv xs)))/\af w w':=by
 obtain ⟨a,c,rfl⟩:=hv.shape;have hl:=hv.len;have HV:=ae hv;obtain ⟨n,hn⟩:∃ n,n=xs.length:=⟨_,rfl⟩;have HN:=ae hn;rw [<-hn] at hl⊢;have HV2:Hid (WdsAt w (.slice a n c) xs):=ae (by rw [hn];exact HV.out);clear hv hn HV;go_enter Tryz.func227,Tryz.ntmps227;go_wp2;go_loopg [3] n (fun kx s3 wr=>∃ k:Nat,s3=.int .i64 k/\k<=n/\k<=kx/\Hid (∀ i,k<=i->xs.getD i 0=0)/\w=wr)
 case atStart=>exact ⟨n,rfl,Nat.le_refl _,Nat.le_refl _,ae (fun i hi=>by have:=HN.out;simp [List.getD_eq_getElem?_getD,show xs.length<=i by omega]),rfl⟩
 case round =>
  obtain ⟨k,rfl,hk,hkx,HZ,rfl⟩:=hrel;have hle:k<=xs.length:=by have:=HN.out;omega
  have HT:=ae (HV2.out.take k hle);have hlt:(xs.take k).length=k:=by rw [List.length_take];omega
  have HLT:=ae hlt;have hkc:k<=c:=by obtain ⟨_,_,h1,h2,_⟩:=HT.out;injection h1 with _ h3 h4;omega
  clear hlt;by_cases hex:k=0\/xs.getD (k - 1) 0≠0
  ·have E0:=ae (rq HV2.out.wd hle HZ.out hex);have HFIN:Hid (∀ (g cc:Nat),True):=ae fun _ _=>trivial
   clear HFIN;by_cases hk0:k=0
   ·have hp:¬ (k:Int) > 0:=by omega
    have hcn:a=none->c=0:=by obtain ⟨_,_,h1,h2,_⟩:=HV2.out;injection h1 with h1 _ h3;subst h1 h3;exact h2.2
    subst hk0;clear hex;cases a with
    | none =>
     have:=hcn rfl;subst this;go_wp2;go_ret;exact ⟨⟨_,rfl,by rw [E0.out];exact ci w _ (Nat.le_refl _)⟩,(af.refl _).alloc _⟩
    | some a =>
     clear hcn;go_wp2;go_ret;exact ⟨⟨_,rfl,by rw [E0.out];exact ci w _ (Nat.le_refl _)⟩,(af.refl _).alloc _⟩
   ·obtain ⟨b,o,rfl,hc⟩:=HV2.out.get (k - 1) (by omega);have hx0:=hex.resolve_left hk0;obtain ⟨x,hx2⟩:∃ x,x=xs.getD (k - 1) 0:=⟨_,rfl⟩;rw [<-hx2] at hc hx0;obtain ⟨j,hj2⟩:∃ j,j=k - 1:=⟨_,rfl⟩;rw [<-hj2] at hc;have hp:(k:Int) > 0:=by omega
    have hj:(k:Int) - 1=(j:Int):=by omega
    have hjn:(j:Int)<(n:Int):=by omega
    have hjn2:j<n:=by omega
    have hb:((x:Int) == 0)=false:=by simp;exact hx0
    clear hex hx2 hx0 hj2;go_wp2_with (at_builtin;refine qU rfl _ _ rfl w.heap.size _ [] rfl (ci w _ (Nat.le_refl _)) _ _ rfl (HT.out.kept ((af.refl _).alloc _)) (by have:=HLT.out;simp;omega) (by simp) ?_;intro v7 w7 hown7 hb7;have O7:=ae hown7;have HB7:=ae hb7;clear hown7 hb7);go_ret;exact ⟨⟨_,rfl,by rw [E0.out];have:=O7.out;simpa using this⟩,((af.refl _).alloc _).app HB7.out⟩
  ·have hk0:k≠0:=fun h=>hex (.inl h)
   have hx0:xs.getD (k - 1) 0=0:=Classical.byContradiction fun h=>hex (.inr h)
   obtain ⟨b,o,rfl,hc⟩:=HV2.out.get (k - 1) (by omega);rw [hx0] at hc;obtain ⟨j,hj2⟩:∃ j,j=k - 1:=⟨_,rfl⟩;rw [<-hj2] at hc hx0;have hp:(k:Int) > 0:=by omega
   have hj:(k:Int) - 1=(j:Int):=by omega
   have hjn:(j:Int)<(n:Int):=by omega
   have hjn2:j<n:=by omega
   have hjk:j+1=k:=by omega
   have HX:=ae hx0;clear hex hx0 hj2;go_wp2;go_roundg j
   case measure=>omega
   case rel=>exact ⟨j,by go_num,by omega,Nat.le_refl _,ae (fun i hi=>by
    by_cases h:i=j
    ·rw [h];exact HX.out
    ·exact HZ.out i (by omega)),rfl⟩
def cX (a b:Nat):Int:=if a<b then -1 else if b<a then 1 else 0
theorem fO {a b:Nat} (h:a<b):cX a b=-1:=by unfold cX;rw [if_pos h]
theorem eT {a b:Nat} (h:b<a):cX a b=1:=by unfold cX;rw [if_neg (by omega),if_pos h]
theorem fN {a b:Nat} (h:a=b):cX a b=0:=by unfold cX;rw [if_neg (by omega),if_neg (by omega)]
theorem dR (va vb:Value) (xs ys:List Nat) (w:World) (ha:WdsAt w va xs) (hb:WdsAt w vb ys):Calls Tryz.prog 69 #[va,vb] w fun e w'=>e=.returned (.int .i64 (cX (nv xs) (nv ys)))/\af w w':=by
 have HA:=ae (fun W (hk:af w W)=>bh va xs W (ha.kept hk));have HB:=ae (fun W (hk:af w W)=>bh vb ys W (hb.kept hk));obtain ⟨a0,c0,rfl⟩:=ha.shape;obtain ⟨a1,c1,rfl⟩:=hb.shape;obtain ⟨m,hm⟩:∃ m,m=nv xs:=⟨_,rfl⟩;obtain ⟨n,hn⟩:∃ n,n=nv ys:=⟨_,rfl⟩;rw [<-hm] at HA⊢;rw [<-hn] at HB⊢;generalize xs.length=l0 at *;generalize ys.length=l1 at *;clear ha hb hm hn;go_enter Tryz.func69,Tryz.ntmps69;go_wp2_with fail;refine (HA.out _ (af.refl _)).mono ?_;rintro e w1 ⟨⟨v1,rfl,hv1⟩,hk1⟩;go_wp2_with fail;refine (HB.out _ hk1).mono ?_;rintro e w2 ⟨⟨v2,rfl,hv2⟩,hk2⟩;have hv1':=hv1.kept hk2;have HK:=ae (hk1.trans hk2);obtain ⟨a2,c2,rfl⟩:=hv1'.shape;obtain ⟨a3,c3,rfl⟩:=hv2.shape;have H1:=ae hv1';have H2:=ae hv2;obtain ⟨p,hp⟩:∃ p,p=(nw m).length:=⟨_,rfl⟩;obtain ⟨q,hq⟩:∃ q,q=(nw n).length:=⟨_,rfl⟩;have hp9:p<=1099511627776:=by rw [hp];exact hv1'.len
 have hq9:q<=1099511627776:=by rw [hq];exact hv2.len
 rw [<-hp] at H1⊢;rw [<-hq] at H2⊢;have HP:=ae hp;have HQ:=ae hq;clear hv1 hv1' hv2 hk1 hk2 hp hq;rcases Nat.lt_trichotomy p q with hlt | heq | hgt
 ·have hc:=fO (mj (m:=m) (n:=n) (by have:=HP.out;have:=HQ.out;omega));have HC:=ae hc;have b1:((p:Int) != (q:Int))=true:=by simp;omega
  have b2:decide (p<q)=true:=by simpa using hlt
  clear hc;go_wp2;go_ret;exact ⟨by rw [HC.out];first | done | rfl,HK.out⟩
 ·subst heq;have b1:((p:Int) != (p:Int))=false:=by simp
  go_wp2;go_loopg [5] p (fun kx s5 wr=>∃ k:Nat,s5=.int .i64 ((k:Int) - 1)/\k<=p/\k<=kx/\Hid (∀ i,k<=i->(nw m).getD i 0=(nw n).getD i 0)/\Hid (af w2 wr))
  case atStart=>exact ⟨p,rfl,Nat.le_refl _,Nat.le_refl _,ae (fun i hi=>by
   have h1:=HP.out;have h2:=HQ.out;simp [List.getD_eq_getElem?_getD,show (nw m).length<=i by omega,show (nw n).length<=i by omega]),ae (af.refl _)⟩
  case round =>
   obtain ⟨k,rfl,hk,hkx,HD,HR⟩:=hrel;by_cases hk0:k=0
   ·subst hk0
    have hc:=fN (show m=n by
     have h:=Bj (HP.out.symm.trans HQ.out) (fun i=>HD.out i (by omega));have h1:=ap m;rw [h,ap] at h1;exact h1.symm)
    have HC:=ae hc;clear hc;go_wp2;go_ret;exact ⟨by rw [HC.out];first | done | rfl,by first | exact HK.out.trans HR.out | exact (HK.out.trans HR.out).drew | exact ((HK.out.trans HR.out).drewN _).drewN _⟩
   ·obtain ⟨j,rfl⟩:∃ j,k=j+1:=⟨k - 1,by omega⟩;have hpj:=HP.out;have hqj:=HQ.out;obtain ⟨b,o,rfl,hx⟩:=(H1.out.kept HR.out).get j (by omega);obtain ⟨b',o',rfl,hy⟩:=(H2.out.kept HR.out).get j (by omega);have hxw:=(dT m).getD j;have hyw:=(dT n).getD j
    have HLT:Hid ((nw m).getD j 0<(nw n).getD j 0->m<n):=ae fun h=>by
     have:=tb (dT m) (hpj.symm.trans hqj) (by omega) (fun i hi=>HD.out i (by omega)) h
     rwa [ap,ap] at this
    have HGT:Hid ((nw n).getD j 0<(nw m).getD j 0->n<m):=ae fun h=>by
     have:=tb (dT n) (hqj.symm.trans hpj) (by omega) (fun i hi=>(HD.out i (by omega)).symm) h
     rwa [ap,ap] at this
    have HEQ:Hid ((nw m).getD j 0=(nw n).getD j 0->∀ i,j<=i->(nw m).getD i 0=(nw n).getD i 0):=ae fun h i hi=>by
     by_cases e:i=j
     ·rw [e];exact h
     ·exact HD.out i (by omega)
    generalize (nw m).getD j 0=x at *;generalize (nw n).getD j 0=y at *;have e1:((j+1:Nat):Int) - 1=(j:Int):=by omega
    rw [e1];have hj0:(0:Int)<=(j:Int):=by omega
    have hjn:(j:Int)<(p:Int):=by omega
    clear hpj hqj e1;rcases Nat.lt_trichotomy x y with h | h | h
    ·have HC:=ae (fO (HLT.out h));have h':(x:Int)<(y:Int):=by omega
     go_wp2;go_region;all_goals go_wp2
     all_goals go_ret
     all_goals exact ⟨by rw [HC.out];first | done | rfl,by first | exact HK.out.trans HR.out | exact (HK.out.trans HR.out).drew | exact ((HK.out.trans HR.out).drewN _).drewN _⟩
    ·subst h;have h':¬ (x:Int)<(x:Int):=by omega
     have hr:=ae (HEQ.out rfl);go_wp2;go_quiet (fail);go_wp2;go_quiet (fail);go_wp2;go_roundg j
     case measure=>omega
     case rel=>exact ⟨j,rfl,by omega,Nat.le_refl _,hr,ae (by first | exact HR.out.drewN _ | exact (HR.out.drewN _).drewN _)⟩
    ·have HC:=ae (eT (HGT.out h));have h':¬ (x:Int)<(y:Int):=by omega
     have h'':(y:Int)<(x:Int):=by omega
     go_wp2;go_quiet (fail);go_wp2;go_quiet (fail);go_wp2;go_ret;exact ⟨by rw [HC.out];first | done | rfl,by first | exact HK.out.trans HR.out | exact (HK.out.trans HR.out).drew | exact ((HK.out.trans HR.out).drewN _).drewN _⟩
 ·have hc:=eT (mj (m:=n) (n:=m) (by have:=HP.out;have:=HQ.out;omega));have HC:=ae hc;have b1:((p:Int) != (q:Int))=true:=by simp;omega
  have b2:decide (p<q)=false:=by simp;omega
  clear hc;go_wp2;go_ret;exact ⟨by rw [HC.out];first | done | rfl,HK.out⟩
theorem da {w:World} {g n:Nat} (h:ai w g 70 (List.replicate n (.int .u32 0))):ai w g 70 ((List.replicate n 0).map f'):=by
 simpa [f'] using h
theorem rT {L xs ys:List Nat} {i c p:Nat} (h:nv (L.take i)+c*4294967296^i=nv (xs.take i)+nv (ys.take i)) (hi:i=p) (hx:xs.length+1<=p) (hy:ys.length+1<=p) (hL:L.length=p) (wx:Wd xs) (wy:Wd ys):nv L=nv xs+nv ys:=by
 subst hi;rw [ar L _ (by omega),ar xs _ (by omega),ar ys _ (by omega)] at h;have h1:=Nat.lt_of_lt_of_le (dw wx) (Nat.pow_le_pow_right (by omega) (show xs.length<=i - 1 by omega));have h2:=Nat.lt_of_lt_of_le (dw wy) (Nat.pow_le_pow_right (by omega) (show ys.length<=i - 1 by omega));have h3:4294967296^i=4294967296^(i - 1)*4294967296:=by rw [<-Nat.pow_succ,show (i - 1).succ=i by omega]
 have hc:c=0:=by
  rcases Nat.eq_zero_or_pos c with h0 | h0
  ·exact h0
  ·have:1*4294967296^i<=c*4294967296^i:=Nat.mul_le_mul_right _ h0
   omega
 subst hc;omega
theorem Bf (va vb:Value) (xs ys:List Nat) (w:World) (ha:WdsAt w va xs) (hb:WdsAt w vb ys) (hla:xs.length<=549755813888) (hlb:ys.length<=549755813888) :
  Calls Tryz.prog 178 #[va,vb] w fun e w'=>(∃ v',e=.returned v'/\WdsAt w' v' (nw (nv xs+nv ys)))/\af w w':=by
 have HA:=ae (fun W (hk:af w W) (i:Nat)=>ee va xs i W (ha.kept hk));have HB:=ae (fun W (hk:af w W) (i:Nat)=>ee vb ys i W (hb.kept hk));have HWA:=ae ha.wd;have HWB:=ae hb.wd;obtain ⟨a0,c0,rfl⟩:=ha.shape;obtain ⟨a1,c1,rfl⟩:=hb.shape;obtain ⟨l0,h0⟩:∃ l0,l0=xs.length:=⟨_,rfl⟩;obtain ⟨l1,h1⟩:∃ l1,l1=ys.length:=⟨_,rfl⟩;rw [<-h0] at HA hla⊢;rw [<-h1] at HB hlb⊢;have H0:=ae h0;have H1:=ae h1;obtain ⟨m,hm⟩:∃ m,m=max l0 l1:=⟨_,rfl⟩;have hm9:m<=549755813888:=by omega
 have e0:max (l0:Int) (l1:Int)=(m:Int):=by omega
 obtain ⟨p,hp⟩:∃ p,p=m+1:=⟨_,rfl⟩;have e1:(m:Int)+1=(p:Int):=by omega
 have hp9:p<=549755813889:=by omega
 have HP:Hid (l0+1<=p/\l1+1<=p):=ae (by omega);clear ha hb h0 h1 hm hp;go_enter Tryz.func178,Tryz.ntmps178;go_wp2_with (refine db 27 70 (.int .u32 0) 4 cM Tryz.underlying27 rfl rfl _ _ rfl p rfl rfl (by omega) (by unfold maxLen;omega) ?_;intro w1 hr1 hk1);have HR1:=ae (da hr1);have HK1:=ae hk1;clear hr1 hk1;go_loopg [6,17] p (fun kx s6 s17 wr=>∃ (i c:Nat) (L:List Nat),s6=.int .u64 c/\s17=.int .i64 i/\i<=p/\p - i<=kx/\c<=1/\Hid (ai wr w.heap.size 70 (L.map f'))/\Hid (L.length=p/\Wd L)/\Hid (nv (L.take i)+c*4294967296^i=nv (xs.take i)+nv (ys.take i))/\Hid (af w wr))
 case atStart=>exact ⟨0,0,List.replicate p 0,rfl,rfl,Nat.zero_le _,by omega,by omega,HR1,ae ⟨by simp,Wd.zeros _⟩,ae (by simp [ct]),HK1⟩
 case round =>
  obtain ⟨i,c,L,rfl,rfl,hi,hkx,hc,HR,HL,HI,HK⟩:=hrel;by_cases hlt:i<p
  ·have hx:=HWA.out.getD i;have hy:=HWB.out.getD i;have HX:=ae (HA.out wr HK.out i);have HY:=ae (HB.out wr HK.out i);have f:=HR.out.free i;have hst:=bk HR.out i (by have:=HL.out.1;omega)
   have HST:Hid (∀ s,s=c+xs.getD i 0+ys.getD i 0->(nv (L.take i)+(s % 4294967296)*4294967296^i)+(s / 4294967296)*4294967296^(i+1)=nv (xs.take (i+1))+nv (ys.take (i+1))):=ae fun s hs=>by
    have:=mw HI.out hs;rw [aq,aq,<-this,Nat.pow_succ,Nat.mul_comm (4294967296^i)]
   generalize xs.getD i 0=x at *;generalize ys.getD i 0=y at *;generalize L.getD i 0=z at *;have hkn:(i:Int)<(p:Int):=by omega
   obtain ⟨s,hs⟩:∃ s,s=c+x+y:=⟨_,rfl⟩;have hs9:s<18446744073709551616:=by omega
   obtain ⟨r,hr⟩:∃ r,r=s % 4294967296:=⟨_,rfl⟩;obtain ⟨q,hq⟩:∃ q,q=s / 4294967296:=⟨_,rfl⟩;have hr9:r<4294967296:=by omega
   have hq9:q<=1:=by omega
   have HSS:=ae (HST.out s hs);rw [<-hr,<-hq] at HSS;have e3:(c:Int)+((x:Int)+(y:Int))=(s:Int):=by omega
   have e6:(s:Int) / 4294967296=(q:Int):=by omega
   have e5:IntKind.u32.wrap (s:Int)=(r:Int):=by rw [IntKind.wrap_u32];omega
   clear hs hr hq HST;go_wp2_with (first | (go_at_call 239;(with_reducible refine HX.out.mono ?_);rintro e w2 ⟨rfl,rfl⟩) | (go_at_call 239;(with_reducible refine HY.out.mono ?_);rintro e w2 ⟨rfl,rfl⟩));go_roundg (p - (i+1))
   case measure=>omega
   case rel=>exact ⟨i+1,q,L.set i r,rfl,by go_num,by omega,Nat.le_refl _,hq9,ae (bj HR.out i r),ae ⟨by rw [List.length_set];exact HL.out.1,HL.out.2.set i r hr9⟩,ae (by rw [dH (by have:=HL.out.1;omega)];exact HSS.out),ae (HK.out.store (Nat.le_refl _) i _)⟩
  ·have hie:i=p:=by omega
   have HV:Hid (nv L=nv xs+nv ys):=ae (rT HI.out hie (by have:=HP.out;have:=H0.out;omega) (by have:=HP.out;have:=H1.out;omega) HL.out.1 HWA.out HWB.out)
   have HT:Hid (Calls Tryz.prog 116 #[.slice (some ⟨w.heap.size,0,none⟩) p p] wr fun e w'=>(∃ v',e=.returned v'/\WdsAt w' v' (nw (nv L)))/\af wr w'):=ae (by
    have h:=eW HR.out (c:=p) (by rw [HL.out.1];exact Nat.le_refl _) (by rw [HL.out.1];omega) HL.out.2;rw [HL.out.1] at h;exact bh _ _ _ h)
   clear hie;go_wp2_with (go_at_call 116;refine HT.out.mono ?_;rintro e w2 ⟨⟨v2,rfl,hv2⟩,hk2⟩;have HV2:=ae hv2;clear hv2);obtain ⟨a2,c2,rfl⟩:=HV2.out.shape;go_ret;exact ⟨⟨_,rfl,by rw [<-HV.out];exact HV2.out⟩,HK.out.trans hk2⟩
theorem tU {L xs ys:List Nat} {i b p:Nat} (h:nv (L.take i)+nv (ys.take i)=nv (xs.take i)+b*4294967296^i) (hi:i=p) (hx:xs.length=p) (hL:L.length=p) (wL:Wd L) (wx:Wd xs) (hle:nv ys<=nv xs):nv L=nv xs - nv ys:=by
 subst hi;have hxl:=dw wx;have hLl:=dw wL;rw [hx] at hxl;rw [hL] at hLl;have hy:=(ku (l:=ys) (k:=i) (by omega)).2;rw [ar L _ (by omega),ar xs _ (by omega),hy] at h
 have hb:b=0:=by
  rcases Nat.eq_zero_or_pos b with h0 | h0
  ·exact h0
  ·have:1*4294967296^i<=b*4294967296^i:=Nat.mul_le_mul_right _ h0
   omega
 subst hb;omega
theorem gK {x y b:Nat} (hx:x<4294967296) (hy:y<4294967296) (hb:b<=1):∃ o b' D:Nat,o<4294967296/\b'<=1/\D<18446744073709551616/\o+y+b=x+b'*4294967296/\D % 4294967296=o/\D / 9223372036854775808=b' /\
  ((y+b<=x/\(x:Int) - y - b=D)\/(x<y/\∃ D1:Nat,(x:Int) - y+18446744073709551616=D1/\(D1:Int) - b=D)\/(x=y/\b=1/\(x:Int) - y - b+18446744073709551616=D)):=by
 by_cases h1:y+b<=x
 ·exact ⟨x - y - b,0,x - y - b,by omega,by omega,by omega,by omega,by omega,by omega,.inl ⟨h1,by omega⟩⟩
 ·by_cases h2:x<y
  ·exact ⟨4294967296+x - y - b,1,18446744073709551616+x - y - b,by omega,by omega,by omega,by omega,by omega,by omega,.inr (.inl ⟨h2,18446744073709551616+x - y,by omega,by omega⟩)⟩
  ·exact ⟨4294967295,1,18446744073709551615,by omega,by omega,by omega,by omega,by omega,by omega,.inr (.inr ⟨by omega,by omega,by omega⟩)⟩
theorem mu {z:Int} {D:Nat} (h:z+18446744073709551616=D) (hz:z<0):IntKind.u64.wrap z=(D:Int):=by rw [IntKind.wrap_u64];omega
theorem s_ (va vb:Value) (xs ys:List Nat) (w:World) (ha:WdsAt w va xs) (hb:WdsAt w vb ys) (hle:nv ys<=nv xs) :
  Calls Tryz.prog 179 #[va,vb] w fun e w'=>(∃ v',e=.returned (.tuple #[v',.nilIface])/\WdsAt w' v' (nw (nv xs - nv ys)))/\af w w':=by
 have HA:=ae (fun W (hk:af w W) (i:Nat)=>ee va xs i W (ha.kept hk));have HB:=ae (fun W (hk:af w W) (i:Nat)=>ee vb ys i W (hb.kept hk));have HCMP:=ae (dR va vb xs ys w ha hb);have HWA:=ae ha.wd;have HWB:=ae hb.wd;have hc0:0<=cX (nv xs) (nv ys):=by unfold cX;split <;> (try split) <;> omega
 obtain ⟨cv,hcv⟩:∃ cv,cv=cX (nv xs) (nv ys):=⟨_,rfl⟩;rw [<-hcv] at HCMP hc0;obtain ⟨a0,c0,rfl⟩:=ha.shape;obtain ⟨a1,c1,rfl⟩:=hb.shape;obtain ⟨p,h0⟩:∃ p,p=xs.length:=⟨_,rfl⟩;have hp9:p<=1099511627776:=by rw [h0];exact ha.len
 rw [<-h0] at HA HCMP⊢;generalize ys.length=l1 at *;have H0:=ae h0;have HLE:=ae hle;have hc1:¬ cv<0:=by omega
 clear ha hb h0 hle hcv hc0;go_enter Tryz.func179,Tryz.ntmps179;go_wp2_with fail;refine HCMP.out.mono ?_;rintro e w0 ⟨rfl,hk0⟩;have HK0:=ae hk0;have hsz0:=hk0.size;clear hk0;go_wp2_with (refine db 27 70 (.int .u32 0) 4 cM Tryz.underlying27 rfl rfl _ _ rfl p rfl rfl (by omega) (by unfold maxLen;omega) ?_;intro w1 hr1 hk1);have HR1:=ae (da hr1);have HK1:=ae (HK0.out.trans hk1);clear hr1 hk1;go_loopg [7,20] p (fun kx s7 s20 wr=>∃ (i c:Nat) (L:List Nat),s7=.int .u64 c/\s20=.int .i64 i/\i<=p/\p - i<=kx/\c<=1/\Hid (ai wr w0.heap.size 70 (L.map f'))/\Hid (L.length=p/\Wd L)/\Hid (nv (L.take i)+nv (ys.take i)=nv (xs.take i)+c*4294967296^i)/\Hid (af w wr))
 case atStart=>exact ⟨0,0,List.replicate p 0,rfl,rfl,Nat.zero_le _,by omega,by omega,HR1,ae ⟨by simp,Wd.zeros _⟩,ae (by simp [ct]),HK1⟩
 case round =>
  obtain ⟨i,c,L,rfl,rfl,hi,hkx,hc,HR,HL,HI,HK⟩:=hrel;by_cases hlt:i<p
  ·have hx:=HWA.out.getD i;have hy:=HWB.out.getD i;have HX:=ae (HA.out wr HK.out i);have HY:=ae (HB.out wr HK.out i);have f:=HR.out.free i;have hst:=bk HR.out i (by have:=HL.out.1;omega)
   have HST:Hid (∀ o b',o+ys.getD i 0+c=xs.getD i 0+b'*4294967296->(nv (L.take i)+o*4294967296^i)+nv (ys.take (i+1))=nv (xs.take (i+1))+b'*4294967296^(i+1)):=ae fun o b' hs=>by
    have:=tW HI.out hs;rw [aq,aq,this,Nat.pow_succ,Nat.mul_comm (4294967296^i)]
   generalize xs.getD i 0=x at *;generalize ys.getD i 0=y at *;generalize L.getD i 0=z at *;have hkn:(i:Int)<(p:Int):=by omega
   obtain ⟨o,b',D,ho,hb',hD,hob,hm,hd,hcs⟩:=gK hx hy hc;have HSS:=ae (HST.out o b' hob);have e5:IntKind.u32.wrap (D:Int)=(o:Int):=by rw [IntKind.wrap_u32];omega
   have e6:(D:Int) / 9223372036854775808=(b':Int):=by omega
   clear HST hob hm hd;rcases hcs with ⟨h1,h2⟩ | ⟨h1,D1,h2,h3⟩ | ⟨h1,h2,h3⟩
   ·go_wp2_with (first | (go_at_call 239;(with_reducible refine HX.out.mono ?_);rintro e w2 ⟨rfl,rfl⟩) | (go_at_call 239;(with_reducible refine HY.out.mono ?_);rintro e w2 ⟨rfl,rfl⟩));go_roundg (p - (i+1))
    case measure=>omega
    case rel=>exact ⟨i+1,b',L.set i o,rfl,by go_num,by omega,Nat.le_refl _,hb',ae (bj HR.out i o),ae ⟨by rw [List.length_set];exact HL.out.1,HL.out.2.set i o ho⟩,ae (by rw [dH (by have:=HL.out.1;omega)];exact HSS.out),ae (HK.out.store hsz0 i _)⟩
   ·have e1:=mu h2 (by omega);have hD1:D1<18446744073709551616:=by omega
    clear h2;go_wp2_with (first | (go_at_call 239;(with_reducible refine HX.out.mono ?_);rintro e w2 ⟨rfl,rfl⟩) | (go_at_call 239;(with_reducible refine HY.out.mono ?_);rintro e w2 ⟨rfl,rfl⟩));go_roundg (p - (i+1))
    case measure=>omega
    case rel=>exact ⟨i+1,b',L.set i o,rfl,by go_num,by omega,Nat.le_refl _,hb',ae (bj HR.out i o),ae ⟨by rw [List.length_set];exact HL.out.1,HL.out.2.set i o ho⟩,ae (by rw [dH (by have:=HL.out.1;omega)];exact HSS.out),ae (HK.out.store hsz0 i _)⟩
   ·have e1:=mu h3 (by omega);have g1:x<=y:=by omega
    have g2:y<=x:=by omega
    have g3:1<=c:=by omega
    clear h1 h2 h3;go_wp2_with (first | (go_at_call 239;(with_reducible refine HX.out.mono ?_);rintro e w2 ⟨rfl,rfl⟩) | (go_at_call 239;(with_reducible refine HY.out.mono ?_);rintro e w2 ⟨rfl,rfl⟩));go_roundg (p - (i+1))
    case measure=>omega
    case rel=>exact ⟨i+1,b',L.set i o,rfl,by go_num,by omega,Nat.le_refl _,hb',ae (bj HR.out i o),ae ⟨by rw [List.length_set];exact HL.out.1,HL.out.2.set i o ho⟩,ae (by rw [dH (by have:=HL.out.1;omega)];exact HSS.out),ae (HK.out.store hsz0 i _)⟩
  ·have hie:i=p:=by omega
   have HV:Hid (nv L=nv xs - nv ys):=ae (tU HI.out hie H0.out.symm HL.out.1 HL.out.2 HWA.out HLE.out)
   have HT:Hid (Calls Tryz.prog 116 #[.slice (some ⟨w0.heap.size,0,none⟩) p p] wr fun e w'=>(∃ v',e=.returned v'/\WdsAt w' v' (nw (nv L)))/\af wr w'):=ae (by
    have h:=eW HR.out (c:=p) (by rw [HL.out.1];exact Nat.le_refl _) (by rw [HL.out.1];omega) HL.out.2;rw [HL.out.1] at h;exact bh _ _ _ h)
   clear hie;go_wp2_with (go_at_call 116;refine HT.out.mono ?_;rintro e w2 ⟨⟨v2,rfl,hv2⟩,hk2⟩;have HV2:=ae hv2;clear hv2);obtain ⟨a2,c2,rfl⟩:=HV2.out.shape;go_ret2;exact ⟨⟨_,rfl,by rw [<-HV.out];exact HV2.out⟩,HK.out.trans hk2⟩
end Go.Proofs.YtofibjflkebkpaaGreatDoor
