import Derived.WalkKit
import Derived.WalkSpells
import Derived.WalkLawsBesides
import Derived.Deep.QuietTactic
import Derived.BigQuiet
import Derived.Lib.Hide
import Derived.Shelf.Abstract
import Derived.Deep.RegionWith
import Derived.Laws.AppendOwnNone
import Derived.Lib.AppendZerosOnto
import Derived.Lib.SliceRun
import Derived.Lib.SlicesCompact
import Derived.Shelf.SlSortCmp.NoneTotal
import Derived.Maps.OwnOps
import Derived.Maps.OwnSet
import Derived.Maps.Views
import Derived.Deep.MidRow
import Derived.Deep.RegionHeld3
import Derived.Deep.AppendLies
import Derived.Deep.RegionLaw
import Derived.IntWalk
import Derived.StillTailTactics
import Derived.RegionTactic
import Derived.BigRegion
import Derived.ChangeAlike
import Derived.Sort.LotD2
import Derived.Sort.LotA
import Derived.Shelf.SlSortCmp.PdqK
import Derived.Deep.DeepCutAuto
import Derived.Lib.ItoaNum
import Derived.Deep.LoopGhost
import Derived.Test.YtofibjflkebkpaaGreatDoorEX3
import Derived.Test.YtofibjflkebkpaaGreatDoorEX2
import Derived.Test.YtofibjflkebkpaaGreatDoorEX1
import Derived.ProofKit
import Derived.OpenShut
import Derived.SizedLaws
import Derived.Lib.SmallJoins
import Derived.Deep.Slices
import Derived.Deep.Fields
import Derived.Deep.Strs
import Derived.Carry
import Derived.Test.YtofibjflkebkpaaGreatDoorShelf
set_option maxRecDepth 100000
set_option maxHeartbeats 16000000
namespace Go.Proofs.YtofibjflkebkpaaGreatDoor
open Go.RowKit
theorem vh (c:Nat):∀ u∈aU c,u.oneCell'=true:=fun u hu=>by simp [aU] at hu;rcases hu with rfl | rfl | rfl <;> rfl
theorem Ab (L:List Nat):∀ u∈L.flatMap aU,u.oneCell'=true:=fun u hu=>by
 obtain ⟨c,_,h⟩:=List.mem_flatMap.1 hu;exact vh c u h
theorem zB (b o j:Nat):(⟨b,o,none⟩:Addr).add j=⟨b,o+j,none⟩:=by unfold Addr.add;split <;> simp_all
theorem ww {ops:Array Oper} {rest:List Oper} {o:Oper} {a:Act} {Q:Exit->Act->World->Prop} {w:World} (hgd:o.guard=none) (s x:Operand)
  (ho:o.op=.call { callee:=.builtin .append,args:=#[s,x],argTypes:=#[93,93] }) (B:Nat) (v:Value) (L:List Nat) (hs:a.eval s=v) (hown:aK w B v L)
  (ad:Addr) (n c:Nat) (M:List Nat) (hx:a.eval x=.slice (some ad) n c) (hu:dh w (.slice (some ad) n c) M) (hl:L.length+M.length<=10000) (hB:B<=w.heap.size)
  (h:∀ v' w',aK w' B v' (L++M)->Below B w w'->wpList Tryz.prog ops Q rest (a.put o.dst v') w'):wpList Tryz.prog ops Q (o :: rest) a w:=by
 obtain ⟨i0,hi0,hz0,hz1,hz2⟩:=info_parts sC;obtain ⟨a',c',h1,h2,h3,h4,h5⟩:=hu;cases h1;refine wpList_append_own _ hgd s x 93 ho B 99 i0 _ 3 24 Tryz.underlying93 hi0 hz0 hz1 hz2 rfl (by decide) v L.length _ hs hown.1 ad M.length c (M.flatMap aU) hx (oF M) ?_ (Ab M) (by simp [maxLen];omega) (by omega) hB ?_
 ·intro j u hj
  have hj':j<M.length*3:=by
   rw [<-oF];exact (List.getElem?_eq_some_iff.1 hj).1
  obtain ⟨b,o,h6,h7⟩:=h5 (j / 3) (by omega);cases h6;have e:=sw M (j / 3) (by omega) (j % 3) (by omega);rw [show j / 3*3+j % 3=j by omega,hj] at e;have:=h7 (j % 3) u e.symm;rw [zB];rw [show o+j=o+j / 3*3+j % 3 by omega];exact this
 ·intro v' w' h6 h7 _;refine h v' w' ⟨by rw [List.flatMap_append,List.length_append];exact h6,by simp;omega,fun c hc=>?_⟩ (bf h7 hown.1 hB);rcases List.mem_append.1 hc with hc | hc
  ·exact hown.2.2 c hc
  ·exact h4 c hc
theorem uS (w:World) (B:Nat) (hB:B<=w.heap.size):aK (w.alloc (.cells #[] 99)) B (.slice (some ⟨w.heap.size,0,none⟩) 0 0) [] :=
 ⟨⟨by simp,.inr ⟨w.heap.size,0,#[],rfl,hB,heap_alloc_new w _,Nat.le_refl _,by unfold maxLen;omega,by simp,by simp⟩⟩,by simp,by simp⟩
theorem t_ (v:Value) (L:List Nat) (w:World) (hv:dh w v L) :
  Calls Tryz.prog 186 #[v] w fun e w'=>(∃ v',e=.returned v'/\aK w' w.heap.size v' L)/\ag w w':=by
 have HV:=af hv;obtain ⟨sa,c,rfl,⟨_,hn0⟩,hl,_⟩:=hv;cases sa with
 | none =>
  have hc0:=hn0 rfl;subst hc0
  have hL0:L=[]:=by
   obtain ⟨_,_,h1,_,_,_,h5⟩:=HV.out;cases L with
   | nil=>rfl
   | cons x l =>
    obtain ⟨b,o,h6,_⟩:=h5 0 (by simp);injection h1 with h1
    rw [h6] at h1;cases h1
  subst hL0;have hnl:∀ w:World,(binOp .eql 93 (.slice none 0 0) (.slice none 0 0)).run Tryz.prog w=.ok (.bool true) w:=fun w=>Lib.run_eql_slice_nil w 93 99 none 0 0 0 0 Tryz.underlying93
  clear hn0 hl;show Calls _ _ #[.slice none 0 0] _ _;go_enter Tryz.func186,Tryz.ntmps186;go_wp2;go_ret;exact ⟨⟨_,rfl,aK.nil _ _⟩,ag.refl _⟩
 | some ad =>
  obtain ⟨n,hn⟩:∃ n,n=L.length:=⟨_,rfl⟩;have HV2:Hid (dh w (.slice (some ad) n c) L):=af (by rw [hn];exact HV.out);rw [<-hn] at hl⊢;have HN:=af hn;clear hn hn0 HV;have hnl:∀ w:World,(binOp .eql 93 (.slice (some ad) n c) (.slice none 0 0)).run Tryz.prog w=.ok (.bool false) w:=fun w=>Lib.run_eql_slice_nil w 93 99 (some ad) n c 0 0 Tryz.underlying93
  go_enter Tryz.func186,Tryz.ntmps186;go_wp2_with (at_builtin;refine ww rfl _ _ rfl w.heap.size _ [] rfl (uS w _ (Nat.le_refl _)) ad n c L rfl (HV2.out.kept ((ag.refl _).alloc _)) (by simp;have:=HN.out;omega) (by simp) ?_;intro v7 w7 hown7 hb7;have O7:=af hown7;have HB7:=af hb7;clear hown7 hb7);go_ret;exact ⟨⟨_,rfl,O7.out⟩,((ag.refl _).alloc _).app HB7.out⟩
def DecidesR (g:Nat) (lb:Array Value) (p:Nat->Bool) (w:World):Prop :=
 ∀ (W:World) (x:Nat),ag w W->aI 152 x->Calls Tryz.prog g (#[cH x]++lb) W fun e W'=>e=.returned (.bool (p x))/\ag W W'
theorem uE (g:Nat) (lb:Array Value) (eg:∀ args w,(callFunc g args).run Tryz.prog w=.ok (.enter g args) w) (p:Nat->Bool) (v:Value) (L:List Nat) (w:World)
  (hp:DecidesR g lb p w) (hv:dh w v L) :
  Calls Tryz.prog 242 #[v,.func (.func g) #[] lb] w fun e w'=>(∃ n:Int,e=.returned (.int .i64 n)/\(decide (0<=n)=L.any p))/\ag w w':=by
 obtain ⟨a,c,rfl,⟨hc,_⟩,hl,hlt,hx⟩:=hv;obtain ⟨n,hn⟩:∃ n,n=L.length:=⟨_,rfl⟩;have hbig:n<=10000:=by omega
 rw [<-hn];have HX:=af hx;have HN:=af hn;have HP:=af hp;have HLT:=af hlt;clear hx hn hp hl hc hlt;go_enter Tryz.func242,Tryz.ntmps242;go_wp2;go_loopg [8] n (fun kx i wr=>∃ k:Nat,k<=n/\i=.int .i64 k/\n - k<=kx/\Hid (∀ x∈L.take k,p x=false)/\Hid (ag w wr))
 case atStart=>exact ⟨0,Nat.zero_le _,rfl,by omega,af (by simp),af (ag.refl _)⟩
 case round =>
  obtain ⟨k,hk,rfl,hkx,HF,HK⟩:=hrel;by_cases hlt:k<n
  ·have hkl:k<L.length:=by have:=HN.out;omega
   obtain ⟨b,o,rfl,hrg⟩:=HX.out k hkl;have hrg2:=kN hrg HK.out;have hxl:=HLT.out L[k] (List.getElem_mem _);obtain ⟨x,hxx⟩:∃ x,x=L[k]:=⟨_,rfl⟩;rw [<-hxx] at hrg2 hxl;have HXX:=af hxx;have HRG:Hid (wr.rangeAt b (o+k*3) [.int .i64 (bZ x),.int .u64 (bW x),.int .u64 (bP x)]):=af hrg2;have HC:Hid (∀ W,ag w W->Calls Tryz.prog g (#[.agg #[.int .i64 (bZ x),.int .u64 (bW x),.int .u64 (bP x)]]++lb) W fun e W'=>e=.returned (.bool (p x))/\ag W W'):=af fun W hk=>HP.out W x hk hxl
   have hkn:(k:Int)<(n:Int):=by omega
   obtain ⟨z0,hz0⟩:∃ z,z=bZ x:=⟨_,rfl⟩;obtain ⟨z1,hz1⟩:∃ z,z=bW x:=⟨_,rfl⟩;obtain ⟨z2,hz2⟩:∃ z,z=bP x:=⟨_,rfl⟩;rw [<-hz0,<-hz1,<-hz2] at HRG HC;clear hrg hrg2 hxx hxl hz0 hz1 hz2;cases hq:p x with
   | true =>
    rw [hq] at HC;have HQ:=af hq;clear hq;go_wp2_with (first | (with_reducible refine wpList_load_mid rfl 99 _ rfl b (o+k*3) rfl _ _ HRG.out Tryz.underlying99 rfl (by kernel_rfl) ?_) | (go_at_fn g;refine (HC.out _ HK.out).mono ?_;rintro e w' ⟨rfl,hK2⟩));go_ret;refine ⟨⟨k,rfl,?_⟩,HK.out.trans hK2⟩
    have:L.any p=true:=List.any_eq_true.2 ⟨x,by rw [HXX.out];exact List.getElem_mem _,HQ.out⟩
    rw [this];simp
   | false =>
    rw [hq] at HC;have HQ:=af hq;clear hq;go_wp2_with (first | (with_reducible refine wpList_load_mid rfl 99 _ rfl b (o+k*3) rfl _ _ HRG.out Tryz.underlying99 rfl (by kernel_rfl) ?_) | (go_at_fn g;refine (HC.out _ HK.out).mono ?_;rintro e w' ⟨rfl,hK2⟩));go_roundg (n - (k+1))
    case measure=>omega
    case rel =>
     refine ⟨k+1,by omega,by go_num,Nat.le_refl _,af ?_,af (HK.out.trans hK2)⟩;intro y hy;rw [List.take_succ_eq_append_getElem hkl] at hy;rcases List.mem_append.1 hy with hy | hy
     ·exact HF.out y hy
     ·simp at hy;rw [hy,<-HXX.out];exact HQ.out
  ·go_wp2;go_ret;refine ⟨⟨-1,rfl,?_⟩,HK.out⟩;have hh:=HF.out;rw [List.take_of_length_le (by have:=HN.out;omega)] at hh
   have:L.any p=false:=by rw [List.any_eq_false];intro y hy;simp [hh y hy]
   rw [this];rfl
theorem Ah (g:Nat) (lb:Array Value) (eg:∀ args w,(callFunc g args).run Tryz.prog w=.ok (.enter g args) w) (p:Nat->Bool) (v:Value) (L:List Nat) (w:World)
  (hp:DecidesR g lb p w) (hv:dh w v L) :
  Calls Tryz.prog 190 #[v,.func (.func g) #[] lb] w fun e w'=>e=.returned (.bool (L.any p))/\ag w w':=by
 have h:=uE g lb eg p v L w hp hv;have H:=af h;clear h hp hv eg;obtain ⟨r,hr⟩:∃ r,r=L.any p:=⟨_,rfl⟩;rw [<-hr] at H⊢;clear hr;go_enter Tryz.func190,Tryz.ntmps190;go_wp2_with (go_at_call 242;refine H.out.mono ?_;rintro e w' ⟨⟨n,rfl,hn⟩,hK⟩;have HN:=af hn;clear hn);go_ret;exact ⟨by rw [<-HN.out];rfl,hK⟩
theorem rh (c B:Nat) (w:World) (hc:aI 152 c) (h0:w.cell? ⟨B,0,none⟩=some (.int .i64 (bZ c))) (h1:w.cell? ⟨B,1,none⟩=some (.int .u64 (bW c))) (h2:w.cell? ⟨B,2,none⟩=some (.int .u64 (bP c))) :
  DecidesR 191 #[.pointer (some ⟨B,0,none⟩)] (fun t=>aZ t c) w:=by
 intro W x hK hx;show Calls Tryz.prog _ _ W fun e W'=>e=.returned (.bool (aZ x c))/\ag W W'
 have h0':=hK.cell h0;have h1':=hK.cell h1;have h2':=hK.cell h2;have HP:Hid (∀ W',Calls Tryz.prog 192 #[cH x,cH c] W' fun e w'=>e=.returned (.bool (aZ x c))/\∃ C O,w'=(W'.alloc C).alloc O):=af fun W'=>yR hx hc W'
 have hbl:B<W.heap.size:=by
  by_cases h:B<W.heap.size
  ·exact h
  ·simp [World.cell?,Array.getElem?_eq_none (Nat.le_of_not_lt h)] at h0'
 unfold cH at *;generalize aZ x c=q at *;generalize bZ c=y0 at *;generalize bW c=y1 at *;generalize bP c=y2 at *;generalize bZ x=z0 at *;generalize bW x=z1 at *;generalize bP x=z2 at *;clear h0 h1 h2 hK hx hc;show Calls Tryz.prog 191 #[.agg #[.int .i64 z0,.int .u64 z1,.int .u64 z2],.pointer (some ⟨B,0,none⟩)] W _;go_enter Tryz.func191,Tryz.ntmps191;go_wp2_with (go_at_call 192;refine (HP.out _).mono ?_;rintro e w' ⟨rfl,C,O,rfl⟩);go_ret;exact ⟨rfl,(((ag.refl _).alloc _).alloc _).alloc _⟩
theorem Ce {ops:Array Oper} {rest:List Oper} {o:Oper} {a:Act} {Q:Exit->Act->World->Prop} {w:World} (hgd:o.guard=none) (s x:Operand)
  (ho:o.op=.call { callee:=.builtin .append,args:=#[s,x],argTypes:=#[93,93] }) (B:Nat) (v:Value) (L:List Nat) (hs:a.eval s=v) (hown:aK w B v L)
  (g c:Nat) (hx:a.eval x=.slice (some ⟨g,0,none⟩) 1 1) (hu:w.rangeAt g 0 (aU c)) (hc:aI 152 c) (hl:L.length<10000) (hB:B<=w.heap.size)
  (h:∀ v' w',aK w' B v' (L++[c])->Below B w w'->wpList Tryz.prog ops Q rest (a.put o.dst v') w'):wpList Tryz.prog ops Q (o :: rest) a w :=
 ww hgd s x ho B v L hs hown ⟨g,0,none⟩ 1 1 [c] hx ⟨_,1,rfl,⟨by simp,fun h=>by cases h⟩,by simp,by simpa using hc,fun i hi=>⟨g,0,rfl,by
  have:i=0:=by simpa using hi
  subst this;simpa using hu⟩⟩ (by simp;omega) hB h
theorem yi (l:List Nat) (k:Nat) (h:k<l.length):gI (l.take (k+1))=aG (gI (l.take k)) l[k]:=by
 unfold gI;rw [List.take_succ_eq_append_getElem h,List.foldl_append];rfl
theorem yG (w:World) (x0 x1 x2:Value) (e:TypeId):(w.alloc (.cells #[x0,x1,x2] e)).rangeAt w.heap.size 0 [x0,x1,x2]:=by
 intro j v hj
 match j,hj with
 | 0,hj=>simp at hj;subst hj;simp
 | 1,hj=>simp at hj;subst hj;simp
 | 2,hj=>simp at hj;subst hj;simp
theorem oD (v:Value) (L:List Nat) (w:World) (hv:dh w v L) (hl:L.length<=4097) :
  Calls Tryz.prog 130 #[v] w fun e w'=>(∃ v' M,e=.returned v'/\aK w' w.heap.size v' M/\M.Perm (aP L))/\ag w w':=by
 have HCL:=af (t_ v L w hv);have eg2:∀ args w,(callFunc 191 args).run Tryz.prog w=.ok (.enter 191 args) w:=enters_of Tryz.func191 (by kernel_rfl) rfl;have EG2:=af eg2;have hsh:∃ a n c,v=.slice a n c:=by obtain ⟨a,c,h⟩:=hv.shape;exact ⟨a,_,c,h⟩
 obtain ⟨a,nn,c,rfl⟩:=hsh;clear hv eg2;go_enter Tryz.func130,Tryz.ntmps130;go_wp2_with fail;refine HCL.out.mono ?_;rintro e w1 ⟨⟨v1,rfl,ho1⟩,hk1⟩;have HS:=af (pL w.heap.size v1 L w1 ho1 hk1.size);obtain ⟨a1,c1,hv1⟩:=ho1.at.shape;obtain ⟨n,hn⟩:∃ n,n=L.length:=⟨_,rfl⟩;rw [<-hn] at hv1 hl;subst hv1;have HN:=af hn;have HK1:=af hk1;clear hn ho1 hk1;go_wp2_with fail;refine HS.out.mono ?_;rintro e w2 ⟨rfl,M,hperm,hpair,ho2,hb2⟩;have hk2:ag w w2:=HK1.out.app hb2;have HK2:=af hk2;have HPM:Hid (M.Perm L/\M.Pairwise (fun a b=>pc a<=pc b)):=⟨hperm,hpair⟩;have hml:M.length=n:=by rw [hperm.length_eq];exact HN.out.symm
 have HML:=af hml;have HM:Hid (∀ W,ag w2 W->dh W (.slice a1 n c1) M):=af fun W hk=>ho2.at.kept hk
 clear hperm hpair ho2 hb2 hk2 hml HS;go_wp2;go_loopg [3,12] n (fun kx s3 s12 wr=>∃ (k:Nat) (vo:Value),s3=vo/\s12=.int .i64 k/\k<=n/\n - k<=kx/\Hid (aK wr w2.heap.size vo (gI (M.take k)))/\Hid (ag w2 wr))
 case atStart=>exact ⟨0,_,rfl,rfl,Nat.zero_le _,by omega,af (aK.nil _ _),af (ag.refl _)⟩
 case round =>
  obtain ⟨k,vo,rfl,rfl,hk,hkx,HO,HK⟩:=hrel;have hsz:=HK.out.size;obtain ⟨ao,co,hvo⟩:=HO.out.at.shape;obtain ⟨mo,hmo⟩:∃ mo,mo=(gI (M.take k)).length:=⟨_,rfl⟩;rw [<-hmo] at hvo;subst hvo;by_cases hlt:k<n
  ·have hkl:k<M.length:=by have:=HML.out;omega
   have hmo9:mo<=k:=by rw [hmo];refine Nat.le_trans (oG _ []) ?_;simp;omega
   obtain ⟨b,o,rfl,hrg⟩:∃ b o,a1=some ⟨b,o,none⟩/\wr.rangeAt b (o+k*3) (aU M[k]):=by
    obtain ⟨a',c',h1,_,_,_,h5⟩:=HM.out wr HK.out;injection h1 with h1 h2 h3
    subst h1;exact h5 k hkl
   have hxl:aI 152 M[k]:=by obtain ⟨_,_,_,_,_,h4,_⟩:=HM.out wr HK.out;exact h4 _ (List.getElem_mem _)
   have hstep:=yi M k hkl;obtain ⟨x,hxx⟩:∃ x,x=M[k]:=⟨_,rfl⟩;rw [<-hxx] at hrg hxl hstep;obtain ⟨out,hout⟩:∃ out,out=gI (M.take k):=⟨_,rfl⟩;rw [<-hout] at hstep HO hmo;have HST:=af hstep;have HXL:=af hxl
   have HHAS:Hid (∀ W,ag wr W->W.cell? ⟨wr.heap.size,0,none⟩=some (.int .i64 (bZ x))->W.cell? ⟨wr.heap.size,1,none⟩=some (.int .u64 (bW x))->W.cell? ⟨wr.heap.size,2,none⟩=some (.int .u64 (bP x)) ->
    Calls Tryz.prog 190 #[.slice ao mo co,.func (.func 191) #[] #[.pointer (some ⟨wr.heap.size,0,none⟩)]] W fun e w'=>e=.returned (.bool (out.any fun t=>aZ t x))/\ag W w'):=af fun W hk h0 h1 h2 =>
     Ah 191 #[.pointer (some ⟨wr.heap.size,0,none⟩)] EG2.out (fun t=>aZ t x) _ out W (rh x wr.heap.size W hxl h0 h1 h2) ((HO.out.kept hk).at)
   have HRC:Hid (aU x=[.int .i64 (bZ x),.int .u64 (bW x),.int .u64 (bP x)]):=rfl;unfold aU at hrg;generalize bZ x=z0 at *;generalize bW x=z1 at *;generalize bP x=z2 at *;have HRG:=af hrg;have HMO:=af hmo;have hkn:(k:Int)<(n:Int):=by omega
   clear hrg hxl hstep hxx hout hmo;cases hq:out.any (fun t=>aZ t x) with
   | true =>
    have HQ:=af hq;rw [hq] at HHAS;clear hq;go_wp2_with (first | (with_reducible refine wpList_load_mid rfl 99 _ rfl b (o+k*3) rfl _ _ HRG.out Tryz.underlying99 rfl (by kernel_rfl) ?_) | (go_at_call 190;refine (HHAS.out _ ((ag.refl _).alloc _) (by simp) (by simp) (by simp)).mono ?_;rintro e w3 ⟨rfl,hk3⟩));go_roundg (n - (k+1))
    case measure=>omega
    case rel=>exact ⟨k+1,_,rfl,by go_num,by omega,Nat.le_refl _,af (by rw [HST.out,aG,HQ.out];exact HO.out.kept (((ag.refl _).alloc _).trans hk3)),af (HK.out.trans (((ag.refl _).alloc _).trans hk3))⟩
   | false =>
    have HQ:=af hq;rw [hq] at HHAS;clear hq;go_wp2_with (first | (with_reducible refine wpList_load_mid rfl 99 _ rfl b (o+k*3) rfl _ _ HRG.out Tryz.underlying99 rfl (by kernel_rfl) ?_) | (go_at_call 190;refine (HHAS.out _ ((ag.refl _).alloc _) (by simp) (by simp) (by simp)).mono ?_;rintro e w3 ⟨rfl,hk3⟩;have b0:=hk3.cell (p:=⟨wr.heap.size,0,none⟩) (v:=.int .i64 z0) (by simp);have b1:=hk3.cell (p:=⟨wr.heap.size,1,none⟩) (v:=.int .u64 z1) (by simp);have b2:=hk3.cell (p:=⟨wr.heap.size,2,none⟩) (v:=.int .u64 z2) (by simp);have hs3:=hk3.size;have HO3:=af (HO.out.kept (((ag.refl _).alloc _).trans hk3));have HK3:=af (HK.out.trans (((ag.refl _).alloc _).trans hk3));clear hk3) | (at_builtin;refine Ce rfl _ _ rfl w2.heap.size _ out rfl (HO3.out.kept ((ag.refl _).alloc _)) w3.heap.size x rfl (by rw [HRC.out];exact yG w3 _ _ _ _) HXL.out (by have:=HMO.out;omega) (by simp at hs3⊢;omega) ?_;intro v4 w4 hown4 hb4;have HO4:=af hown4;have HB4:=af hb4;clear hown4 hb4));go_roundg (n - (k+1))
    case measure=>omega
    case rel=>exact ⟨k+1,v4,rfl,by go_num,by omega,Nat.le_refl _,af (by rw [HST.out,aG,HQ.out];exact HO4.out),af ((HK3.out.alloc _).app HB4.out)⟩
  ·have hke:k=n:=by omega
   have HF:Hid (aK wr w2.heap.size (.slice ao mo co) (gI M)):=af (by have h:=HO.out;rw [hke,<-HML.out,List.take_length] at h;exact h);clear hke hmo;go_wp2;go_ret;exact ⟨⟨_,gI M,rfl,HF.out.mono HK2.out.size,uH HPM.out.1 HPM.out.2⟩,HK2.out.trans HK.out⟩
structure eQ (V T:Nat) (f:Fm) (L st:List Nat) (m:Nat):Prop where
 le:m<=f.nodes.length
 lt:∀ r∈L,aI (24+m) r
 mkd:∀ r∈L,bU V (aR V T f.nodes) r
 len:L.length<=1024
 run:∃ R:List Nat,L.Perm R/\ki V T f.nodes=(dq V f.nodes m R).map fun p=>(p.1,st++p.2)
theorem eQ.start {V T:Nat} {f:Fm} (hok:Ok f V T):eQ V T f [cond V T] [] f.nodes.length:=by
 have hT:=hok.tlt;refine ⟨Nat.le_refl _,fun r hr=>?_,fun r hr=>?_,by simp,⟨[cond V T],.refl _,?_⟩⟩
 ·simp at hr;subst hr;exact dp (by omega) hok.v24
 ·simp at hr;subst hr;refine jn (by omega) hok.v24 ?_;unfold aR;refine eB V f.nodes _ _ _ ?_;rw [List.getD_eq_getElem?_getD,Int.toNat_natCast,List.getElem?_set_self (by simp;omega)];rfl
 ·unfold ki;cases dq V f.nodes f.nodes.length [cond V T] with
  | none=>rfl
  | some p=>rfl
theorem eQ.done {V T:Nat} {f:Fm} {L st:List Nat} {m:Nat} (h:eQ V T f L st m) (hn:∀ c∈L,∀ j,c.testBit (24+j)=true->False):∃ R,ki V T f.nodes=some (R,st)/\L.Perm R:=by
 obtain ⟨R,hp,hr⟩:=h.run;refine ⟨R,?_,hp⟩;rw [hr,qJ V f.nodes 0 R m (Nat.zero_le _) fun j _ _=>?_]
 ·show some (R,st++[])=_;rw [List.append_nil]
 ·rw [List.any_eq_false];intro r hr hb;exact hn r (hp.mem_iff.2 hr) j hb
theorem eQ.at {V T:Nat} {f:Fm} {L st:List Nat} {m i:Nat} (h:eQ V T f L st m) (hi:∃ c∈L,c.testBit (24+i)=true) (hmax:∀ c∈L,∀ j,c.testBit (24+j)=true->j<=i) :
  i<m/\(aR V T f.nodes).getD (V+i) false=true/\∃ R:List Nat,L.Perm R/\R.any (fun r=>r.testBit (24+i))=true/\ki V T f.nodes=(dq V f.nodes (i+1) R).map fun p=>(p.1,st++p.2):=by
 obtain ⟨c,hc,hb⟩:=hi;have him:i<m:=by have:=h.lt c hc _ hb;omega
 obtain ⟨R,hp,hr⟩:=h.run;refine ⟨him,h.mkd c hc i hb,R,hp,List.any_eq_true.2 ⟨c,hp.mem_iff.1 hc,hb⟩,?_⟩;rw [hr,qJ V f.nodes (i+1) R m (by omega) fun j h1 _=>?_];rw [List.any_eq_false];intro r hr hb;have:=hmax r (hp.mem_iff.2 hr) j hb;omega
theorem eQ.full {V T:Nat} {f:Fm} {L st:List Nat} {m i:Nat} (h:eQ V T f L st m) (hi:∃ c∈L,c.testBit (24+i)=true) (hmax:∀ c∈L,∀ j,c.testBit (24+j)=true->j<=i)
  (hl:4096<(cO V (f.nodes.getD i bz) i L).length):ki V T f.nodes=none:=by
 obtain ⟨_,_,R,hp,ha,hr⟩:=h.at hi hmax;rw [hr]
 conv=>lhs;unfold dq
 rw [if_pos ha,if_neg (by rw [<-(fX (V:=V) (i:=i) (x:=f.nodes.getD i bz) hp).length_eq];omega)];rfl
theorem eQ.many {V T:Nat} {f:Fm} {L M st:List Nat} {m i:Nat} (h:eQ V T f L st m) (hi:∃ c∈L,c.testBit (24+i)=true) (hmax:∀ c∈L,∀ j,c.testBit (24+j)=true->j<=i)
  (hM:M.Perm (aP (cO V (f.nodes.getD i bz) i L))) (hl:1024<M.length):ki V T f.nodes=none:=by
 obtain ⟨_,_,R,hp,ha,hr⟩:=h.at hi hmax;have he:=mC (fX (V:=V) (i:=i) (x:=f.nodes.getD i bz) hp);rw [hr]
 conv=>lhs;unfold dq
 rw [if_pos ha];split
 ·rw [if_neg (by rw [<-he,<-hM.length_eq];omega)];rfl
 ·rfl
theorem eQ.next {V T:Nat} {f:Fm} (hok:Ok f V T) {L M st:List Nat} {m i:Nat} (h:eQ V T f L st m) (hi:∃ c∈L,c.testBit (24+i)=true) (hmax:∀ c∈L,∀ j,c.testBit (24+j)=true->j<=i)
  (hl4:(cO V (f.nodes.getD i bz) i L).length<=4096) (hM:M.Perm (aP (cO V (f.nodes.getD i bz) i L))) (hl:M.length<=1024):eQ V T f M (st++[M.length]) i:=by
 obtain ⟨him,hmk,R,hp,ha,hr⟩:=h.at hi hmax;have hle:=h.le;have hil:i<f.nodes.length:=by omega
 have hnd:f.nodes.getD i bz=f.nodes[i]:=by simp [List.getD_eq_getElem?_getD,hil]
 have hmem:∀ r∈M,r∈cO V (f.nodes.getD i bz) i L:=fun r hr=>gd (hM.mem_iff.1 hr)
 refine ⟨by omega,fun r hr=>?_,fun r hr=>?_,hl,⟨aP (cO V (f.nodes.getD i bz) i R),?_,?_⟩⟩
 ·refine pC hok.v24 (by rw [hnd];exact hok.args i hil) (fun c hc j hj=>?_) r (hmem r hr);by_cases h24:j<24
  ·omega
  ·have:=hmax c hc (j - 24) (by rw [show 24+(j - 24)=j by omega];exact hj);omega
 ·exact nk hok.v24 h.mkd (fun hk a ha=>by rw [hnd] at ha;exact ⟨(hok.args i hil a ha).1,cZ V T f hok i hil hk a ha⟩) r (hmem r hr)
 ·rw [<-mC (fX (V:=V) (i:=i) (x:=f.nodes.getD i bz) hp)];exact hM
 ·rw [hr];have he:=mC (fX (V:=V) (i:=i) (x:=f.nodes.getD i bz) hp)
  conv=>lhs;unfold dq
  rw [if_pos ha,if_pos (by rw [<-(fX (V:=V) (i:=i) (x:=f.nodes.getD i bz) hp).length_eq];exact hl4),if_pos (by rw [<-he,<-hM.length_eq];exact hl),<-he,<-hM.length_eq];cases dq V f.nodes i (aP (cO V (f.nodes.getD i bz) i L)) with
  | none=>rfl
  | some p=>show some _=some _;simp
theorem xL (V:Nat) (x:Nd) (i:Nat) (L:List Nat) (k:Nat) (h:k<L.length):cO V x i (L.take (k+1))=cO V x i (L.take k)++ug V x i L[k]:=by
 unfold cO;rw [List.take_succ_eq_append_getElem h,List.flatMap_append];simp
def Fp (V T:Nat) (nodes:List Nd):Option (List Nat):=(EA V T nodes).map fun l=>if T<V then [2^T] else l.getD (T - V) []
theorem zH (v:Value) (w:World):(Instr.typeAssert (.iface 60 v) 31 60 true).run Tryz.prog w=.ok (.tuple #[v,.bool true]) w:=by kernel_rfl
theorem AF (c:Nat) (w:World) (hc:c<=9223372036854775807):Calls Tryz.prog 17 #[aY c] w fun e w'=>e=.returned (.int .i64 c)/\w=w':=by
 by_cases h:c=0
 ·subst h;rw [aW];go_enter Tryz.func17,Tryz.ntmps17;go_wp2;refine bodyPost_ret (v:=.int .i64 0) ?_ rfl ⟨rfl,rfl⟩;simp [results,Tryz.results17,go_sem]
 ·rw [aN h];clear h;go_enter Tryz.func17,Tryz.ntmps17;go_wp2;rw [zH];go_wp2;go_ret;exact ⟨rfl,rfl⟩
theorem Cx (a b:List Int) (va vb:Value) (w:World) (ha:am w va a) (hb:am w vb b) (h:a.length≠b.length) :
  Calls Tryz.prog 158 #[va,vb] w fun e w'=>e=.returned (.bool false)/\ag w w':=by
 obtain ⟨aa,ca,rfl,_,hla,hca⟩:=ha;obtain ⟨ab,cb,rfl,_,hlb,hcb⟩:=hb;have hne:((a.length:Int) == (b.length:Int))=false:=by simpa using (by omega:(a.length:Int)≠b.length)
 clear h hca hcb;go_enter Tryz.func158,Tryz.ntmps158;go_wp2;go_ret;exact ⟨rfl,ag.refl _⟩
theorem Cw (a b:List Int) (va vb:Value) (w:World) (ha:am w va a) (hb:am w vb b) :
  Calls Tryz.prog 158 #[va,vb] w fun e w'=>e=.returned (.bool (decide (a=b)))/\ag w w':=by
 by_cases h:a.length=b.length
 case neg =>
  refine (Cx a b va vb w ha hb h).mono ?_;rintro e w' ⟨rfl,h2⟩;refine ⟨?_,h2⟩
  have:a≠b:=fun e=>h (by rw [e])
  simp [this]
 obtain ⟨aa,ca,rfl,_,hla,hca⟩:=ha;obtain ⟨ab,cb,rfl,_,hlb,hcb⟩:=hb;obtain ⟨n,hn⟩:∃ n,n=a.length:=⟨_,rfl⟩;have hnb:n=b.length:=by omega
 rw [<-hnb,<-hn];have HA:=af hca;have HB:=af hcb;have Hn:=af hn;have Hnb:=af hnb;have hn9:n<=140737488355328:=by omega
 clear hca hcb h hn hnb hla hlb;go_enter Tryz.func158,Tryz.ntmps158;go_wp2;go_loopw [5,13] (fun _ i wr=>∃ k:Nat,k<=n/\i=.int .i64 k/\(∀ j,j<k->a[j]?=b[j]?)/\ag w wr) (fun _ i _=>n - (intOf i).toNat)
 case atStart=>exact ⟨0,Nat.zero_le _,rfl,by simp,ag.refl _⟩
 case round =>
  obtain ⟨k,hk,rfl,hsame,hbel⟩:=hrel;have HS:=af hsame;clear hsame;by_cases hlt:k<n
  ·have hka:k<a.length:=by have:=Hn.out;omega
   have hkb:k<b.length:=by have:=Hnb.out;omega
   obtain ⟨ba,oa,rfl,c1⟩:=HA.out k hka;obtain ⟨bb,ob,rfl,c2⟩:=HB.out k hkb;have c1':=hbel.cell c1;have c2':=hbel.cell c2;obtain ⟨x,hx⟩:∃ x,x=a[k]:=⟨_,rfl⟩;obtain ⟨y,hy⟩:∃ x,x=b[k]:=⟨_,rfl⟩;rw [<-hx] at c1 c1';rw [<-hy] at c2 c2';have HX:=af hx;have HY:=af hy;have HKA:=af hka;have HKB:=af hkb;clear hx hy c1 c2;by_cases hxy:x=y
   ·have e1:(x == y)=true:=by simpa using hxy
    have e2:(x != y)=false:=by simpa using hxy
    have HXY:=af hxy;clear hxy;go_wp2;go_quiet (fail);go_wp2;go_roundw
    case rel =>
     refine ⟨k+1,by omega,by simp,fun j hj=>?_,hbel.drewN _⟩;by_cases e:j=k
     ·subst e;rw [List.getElem?_eq_getElem HKA.out,List.getElem?_eq_getElem HKB.out,<-HX.out,<-HY.out,HXY.out]
     ·exact HS.out j (by omega)
    case measure=>simp [intOf];omega
   ·have e1:(x == y)=false:=by simpa using hxy
    have e2:(x != y)=true:=by simpa using hxy
    have HXY:=af hxy;clear hxy;go_wp2;go_quiet (fail);go_wp2;go_ret;refine ⟨?_,hbel.drewN _⟩
    have:a≠b:=by
     intro e;subst e;exact HXY.out (HX.out.trans HY.out.symm)
    simp [this]
  ·go_wp2;go_ret;refine ⟨?_,hbel⟩;have hkn:k=n:=by omega
   have:a=b:=by
    apply List.ext_getElem?;intro j;by_cases hj:j<k
    ·exact HS.out j hj
    ·rw [List.getElem?_eq_none (by have:=Hn.out;omega),List.getElem?_eq_none (by have:=Hnb.out;omega)]
   simp [this]
def rn:List Nd:=[⟨3,0,[0,1]⟩,⟨3,0,[0,2]⟩,⟨2,0,[3,4]⟩]
theorem bV {w:World} {cs:Array Value} {e:TypeId} {g:Nat} (hg:g=w.heap.size) {j:Nat} {u:Value} (h:cs[j]?=some u):(w.alloc (.cells cs e)).cell? ⟨g,j,none⟩=some u:=by
 subst hg;simp only [World.cell?,heap_alloc_new];exact h
theorem rB {W:World} {g:Nat} {x y:Int} (h0:W.cell? ⟨g,0,none⟩=some (.int .i64 x)) (h1:W.cell? ⟨g,1,none⟩=some (.int .i64 y)):am W (.slice (some ⟨g,0,none⟩) 2 2) [x,y]:=by
 refine ⟨_,2,rfl,⟨Nat.le_refl _,fun h=>by cases h⟩,by simp,fun i hi=>⟨g,0,rfl,?_⟩⟩
 match i,hi with
 | 0,_=>simpa using h0
 | 1,_=>simpa using h1
theorem uf (w:World):Calls Tryz.prog 43 #[] w fun e w'=>(∃ v,e=.returned (.agg #[.int .i64 3,v,.int .i64 5])/\(∃ a n c,v=.slice a n c)/\bp w' v rn)/\ag w w':=by
 go_enter Tryz.func43,Tryz.ntmps43;go_wp2;generalize hW:World.alloc _ (.cells #[.int .i64 3,.int .i64 0,_,.int .i64 3,.int .i64 0,_,.int .i64 2,.int .i64 0,_] 106)=W;have hk:ag w W:=by rw [<-hW];exact (((((ag.refl w).alloc _).alloc _).alloc _).alloc _).alloc _
 have hs:∀ (j:Nat) (u:Value),(#[.int .i64 3,.int .i64 0,.slice (some ⟨w.heap.size+1,0,none⟩) 2 2,.int .i64 3,.int .i64 0,.slice (some ⟨w.heap.size+1+1,0,none⟩) 2 2,.int .i64 2,.int .i64 0,.slice (some ⟨w.heap.size+1+1+1,0,none⟩) 2 2]:Array Value)[j]?=some u->W.cell? ⟨w.heap.size+1+1+1+1,j,none⟩=some u:=by
  intro j u h;rw [<-hW];exact bV (by simp [World.size_alloc]) h
 have h1:am W (.slice (some ⟨w.heap.size+1,0,none⟩) 2 2) [0,1]:=rB (by rw [<-hW];exact ag.cell ((((ag.refl _).alloc _).alloc _).alloc _) (bV (by simp [World.size_alloc]) rfl)) (by rw [<-hW];exact ag.cell ((((ag.refl _).alloc _).alloc _).alloc _) (bV (by simp [World.size_alloc]) rfl));have h2:am W (.slice (some ⟨w.heap.size+1+1,0,none⟩) 2 2) [0,2]:=rB (by rw [<-hW];exact ag.cell (((ag.refl _).alloc _).alloc _) (bV (by simp [World.size_alloc]) rfl)) (by rw [<-hW];exact ag.cell (((ag.refl _).alloc _).alloc _) (bV (by simp [World.size_alloc]) rfl));have h3:am W (.slice (some ⟨w.heap.size+1+1+1,0,none⟩) 2 2) [3,4]:=rB (by rw [<-hW];exact ag.cell ((ag.refl _).alloc _) (bV (by simp [World.size_alloc]) rfl)) (by rw [<-hW];exact ag.cell ((ag.refl _).alloc _) (bV (by simp [World.size_alloc]) rfl));have r0:W.cell? ⟨w.heap.size,0,none⟩=some (.int .i64 3):=by rw [<-hW];exact ag.cell (((((ag.refl _).alloc _).alloc _).alloc _).alloc _) (bV rfl rfl)
 have r1:W.cell? ⟨w.heap.size,1,none⟩=some (.slice (some ⟨w.heap.size+1+1+1+1,0,none⟩) 3 3):=by rw [<-hW];exact ag.cell (((((ag.refl _).alloc _).alloc _).alloc _).alloc _) (bV rfl rfl)
 have r2:W.cell? ⟨w.heap.size,2,none⟩=some (.int .i64 5):=by rw [<-hW];exact ag.cell (((((ag.refl _).alloc _).alloc _).alloc _).alloc _) (bV rfl rfl)
 refine bodyPost_ret (v:=.agg #[.int .i64 3,.slice (some ⟨w.heap.size+1+1+1+1,0,none⟩) 3 3,.int .i64 5]) (by simp [results,Tryz.results43,go_sem,r0,r1,r2]) rfl ?_;refine ⟨⟨_,rfl,⟨_,_,_,rfl⟩,_,3,rfl,⟨Nat.le_refl _,fun h=>by cases h⟩,by decide,fun i hi=>⟨_,0,rfl,?_⟩⟩,hk⟩
 match i,hi with
 | 0,_=>exact ⟨_,hs 0 _ rfl,hs 1 _ rfl,hs 2 _ rfl,h1⟩
 | 1,_=>exact ⟨_,hs 3 _ rfl,hs 4 _ rfl,hs 5 _ rfl,h2⟩
 | 2,_=>exact ⟨_,hs 6 _ rfl,hs 7 _ rfl,hs 8 _ rfl,h3⟩
def Dl:Fm:=⟨3,rn,5⟩
theorem zP:fJ Dl=0:=by decide
theorem Ek:fO 3 5 Dl=true:=by decide
theorem Dq:Ok Dl 3 5:=by
 obtain ⟨V,T,h⟩:=EG Dl zP;have h1:(3:Int)=(V:Int):=h.vars;have h2:(5:Int)=(T:Int):=h.top;obtain rfl:V=3:=by omega
 obtain rfl:T=5:=by omega
 exact h
theorem EI:pc 0=0/\pc 1=1/\pc 2=1/\pc 3=2/\pc 4=1/\pc 5=2/\pc 6=2/\pc 7=3:=by
 have h0:pc 0=0:=by unfold pc;simp
 have h1:pc 1=1:=by unfold pc;simp [h0]
 have h2:pc 2=1:=by unfold pc;simp [h1]
 have h3:pc 3=2:=by unfold pc;simp [h1]
 have h4:pc 4=1:=by unfold pc;simp [h2]
 have h5:pc 5=2:=by unfold pc;simp [h2]
 have h6:pc 6=2:=by unfold pc;simp [h3]
 have h7:pc 7=3:=by unfold pc;simp [h3]
 exact ⟨h0,h1,h2,h3,h4,h5,h6,h7⟩
theorem zJ:aR 3 5 rn=[true,true,true,true,true,true]:=by decide
section
open Go.RowKit Go.ChangeShapes Go.WideShapes Go.ChangeAt Go.Joins Go.Deep
theorem DV:ownKnob Tryz.prog.godebug=none:=by kernel_rfl
theorem f_:laidOutB Tryz.prog=true:=by kernel_rfl
theorem xB:Tryz.prog.cellsOf 3=1:=by kernel_rfl
theorem xt:Tryz.prog.bytesOf 3=8:=by kernel_rfl
theorem fj {H:Type} {P:Program} {e:TypeId}:∀ {l:List (DataW H)} {d:DataW H},d∈l->∀ n∈d.weights P e,n∈DataW.weightsAll P e l
 | d' :: r,d,hd,n,hn=>by
  simp only [DataW.weightsAll,List.mem_append];rcases List.mem_cons.1 hd with rfl | h
  ·exact .inl hn
  ·exact .inr (fj h n hn)
theorem xo (b o j:Nat):(⟨b,o,none⟩:Addr).add j=⟨b,o+j,none⟩:=by unfold Addr.add;split <;> simp_all
section
variable {H:Type} {enc:TypeId × Value->H} {W:World} {base:Nat}
theorem xW {fuel:Nat} {cs:List Value} {x:DataW H × List MemPlace} (hb:∀ n∈x.1.weights Tryz.prog 22,n<=reachBytes)
  (h:DataW.trod enc Tryz.prog W base (fun _=>true) true fuel 22 cs=some x):∃ u xs,cs=[u]/\am W u xs/\∀ z∈xs,-9223372036854775808<=z/\z<=9223372036854775807:=by
 rcases open_ints Tryz.underlying22 Tryz.underlying3 xB h with ⟨rfl,rfl⟩ | ⟨a,len,cap,zs,rfl,_,hl,hm,hz,rfl,hcell,hwz⟩
 ·exact ⟨_,[],rfl,am.nil _,by simp⟩
 ·simp only [if_true] at hz
  have hbb:=hb ((zs.take len).length*8+(zs.drop len).length*8) (by
   simp only [DataW.weights,Tryz.underlying22,xt,List.mem_cons];exact .inl (by simp [lits];omega))
  simp [reachBytes] at hbb;refine ⟨_,zs.take len,rfl,⟨some a,cap,by simp;omega,⟨by simp;omega,fun h=>by cases h⟩,by simp;omega,fun i hi=>?_⟩,fun z hz=>bounds_i64 (hwz z (List.mem_of_mem_take hz))⟩;simp only [List.length_take] at hi;have hc:=hcell i (by omega);obtain ⟨b,o,spot⟩:=a;have hspot:spot=none:=World.cell?_spot (hcell 0 (by omega));subst hspot;refine ⟨b,o,rfl,?_⟩;have e:(zs.take len)[i]'(by simp;omega)=zs.getD i 0:=by simp [List.getD_eq_getElem?_getD,show i<zs.length by omega]
  rw [e,<-hc];congr 1;by_cases h0:i=0
  ·subst h0;rfl
  ·simp [Addr.add,h0]
instance:Inhabited Nd:=⟨⟨0,0,[]⟩⟩
def EW (x:Nd):Prop:=(-9223372036854775808<=x.kind/\x.kind<=9223372036854775807)/\(-9223372036854775808<=x.k/\x.k<=9223372036854775807)/\∀ z∈x.args,-9223372036854775808<=z/\z<=9223372036854775807
def FE (f:Fm):Prop:=(-9223372036854775808<=f.vars/\f.vars<=9223372036854775807)/\(-9223372036854775808<=f.top/\f.top<=9223372036854775807)/\∀ x∈f.nodes,EW x
end
end
theorem yr {w:World} {v:Value} {nodes:List Nd} (h:bp w v nodes) (i:Nat) (hi:i<nodes.length) :
  ∃ b o n c ua un uc,v=.slice (some ⟨b,o,none⟩) n c/\n=nodes.length/\∀ W,ag w W->W.rangeAt b (o+i*3) [.int .i64 nodes[i].kind,.int .i64 nodes[i].k,.slice ua un uc]/\am W (.slice ua un uc) nodes[i].args:=by
 obtain ⟨a,c,h1,_,_,h4⟩:=h;obtain ⟨b,o,h5,u,e0,e1,e2,e3⟩:=h4 i hi;obtain ⟨ua,un,uc,rfl⟩:=e3.shape;exact ⟨b,o,_,c,ua,un,uc,by rw [h1,h5],rfl,fun W hk=>⟨eZ (hk.cell e0) (hk.cell e1) (hk.cell e2),e3.kept hk⟩⟩
def zx (w':World) (e:Ending) (r:Option (List Nat × List Nat)):Prop :=
 match r with
 | some p=>∃ v1 v2 L,e=.returned (.tuple #[v1,v2,.nilIface])/\aK w' 0 v1 L/\L.Perm p.1/\OwnInts w' 0 v2 (aL p.2)
 | none=>e=.returned (.tuple #[.slice none 0 0,.slice none 0 0,aY 4])
theorem yT (v:Value) (V:Nat) (T:Int) (w:World) (hs:∃ a n c,v=.slice a n c) (hsy:∀ W,ag w W->Calls Tryz.prog 124 #[.agg #[.int .i64 V,v,.int .i64 T]] W fun e w'=>e=.returned (.tuple #[.bool false,.nilIface])/\ag W w') :
  Calls Tryz.prog 77 #[.agg #[.int .i64 V,v,.int .i64 T]] w fun e w'=>e=.returned (.tuple #[.slice none 0 0,.slice none 0 0,aY 7])/\ag w w':=by
 obtain ⟨a,n,c,rfl⟩:=hs;have H:=af hsy;clear hsy;rw [aN (show (7:Nat)≠0 by decide)];go_enter Tryz.func77,Tryz.ntmps77;go_wp2_with (go_at_call 124;refine (H.out _ ((ag.refl _).alloc _)).mono ?_;rintro e w1 ⟨rfl,hk1⟩);go_ret3;exact ⟨rfl,((ag.refl _).alloc _).trans hk1⟩
theorem aK.zero {w:World} {B:Nat} {v:Value} {L:List Nat} (h:aK w B v L):aK w 0 v L:=h.mono (Nat.zero_le _)
theorem aK.grown {w w':World} {B:Nat} {ob:Option Nat} {v:Value} {L:List Nat} (h:aK w B v L) (hg:w.grownBy w' ob) (hne:∀ g,v.ownBlock=some g->some g≠ob):aK w' B v L:=by
 obtain ⟨⟨h1,h2⟩,h3⟩:=h;refine ⟨⟨h1,h2.imp id ?_⟩,h3⟩;rintro ⟨b,cap,cur,rfl,h5,h6,h7⟩;refine ⟨b,cap,cur,rfl,h5,?_,h7⟩
 have hlt:b<w.heap.size:=by
  by_cases h:b<w.heap.size
  ·exact h
  ·rw [Array.getElem?_eq_none (Nat.le_of_not_lt h)] at h6;cases h6
 exact (hg.block b hlt (hne b (by simp [Value.ownBlock]))).trans h6
theorem OwnInts.own_lt {w:World} {B:Nat} {v:Value} {xs:List Int} (h:OwnInts w B v xs) {g:Nat} (hg:v.ownBlock=some g):g<w.heap.size:=(h.1.lt g hg).2
theorem CN (w:World) (B c:Nat) (hB:B<=w.heap.size) (hc:aI 152 c):aK (w.alloc (.cells #[.int .i64 (bZ c),.int .u64 (bW c),.int .u64 (bP c)] 99)) B (.slice (some ⟨w.heap.size,0,none⟩) 1 1) [c] :=
 ⟨⟨by simp [aU],.inr ⟨w.heap.size,1,_,rfl,hB,heap_alloc_new w _,Nat.le_refl _,by unfold maxLen;omega,by simp,by simp [aU]⟩⟩,by simp,by simpa using hc⟩
theorem dh.len {w:World} {v:Value} {L:List Nat} (h:dh w v L):L.length<=10000:=by obtain ⟨_,_,_,_,h,_⟩:=h;exact h
theorem dh.lt {w:World} {v:Value} {L:List Nat} (h:dh w v L):∀ c∈L,aI 152 c:=by obtain ⟨_,_,_,_,_,h,_⟩:=h;exact h
theorem dh.get {w:World} {a:Option Addr} {n c:Nat} {L:List Nat} (h:dh w (.slice a n c) L) (i:Nat) (hi:i<L.length):∃ b o,a=some ⟨b,o,none⟩/\w.rangeAt b (o+i*3) (aU L[i]):=by
 obtain ⟨a',c',h1,_,_,_,h5⟩:=h;injection h1 with h1 h2 h3
 subst h1;exact h5 i hi
theorem nD (w:World):zx w (.returned (.tuple #[.slice none 0 0,.slice none 0 0,aY 4])) none:=rfl
theorem Ac {gl:Nat} {v v':Value} {w0 w w':World} (hk:ag w0 w) (h:dB gl v v' w w') (h1:w0.heap.size<=gl) (h2:v.ownBlock=none):ag w0 w':=by
 refine ⟨h.os.trans hk.os,h.tape.trans hk.tape,h.output.trans hk.output,Nat.le_trans hk.size h.size,fun k hk'=>?_⟩;have:=hk.size;refine (h.block k (by omega) (by omega) (by rw [h2];simp)).trans (hk.block k hk')
theorem Bt (v:Value) (f:Fm) (V T:Nat) (w:World) (hv:bp w v f.nodes) (hok:Ok f V T) (hck:fJ f=0) (hs:fO V T f=true) :
  Calls Tryz.prog 77 #[.agg #[.int .i64 V,v,.int .i64 T]] w fun e w'=>zx w' e (ki V T f.nodes)/\ag w w':=by
 have HSY:Hid (∀ W,ag w W->Calls Tryz.prog 124 #[.agg #[.int .i64 V,v,.int .i64 T]] W fun e w'=>e=.returned (.tuple #[.bool true,.nilIface])/\ag W w'):=af fun W hk=>by
  have:=mS v f V T W (hv.kept hk) hok hck;rw [hs] at this;exact this
 have HNR:=af (fun i (hi:i<f.nodes.length)=>yr hv i hi);have HOK:=af hok;have HMO:=af (fun i (hi:i<f.nodes.length) h=>jF hok hs i hi h);have hsh:∃ a n c,v=.slice a n c:=by obtain ⟨a,c,h,_⟩:=hv;exact ⟨a,_,c,h⟩
 obtain ⟨a,n,c,rfl⟩:=hsh;have h24:=hok.v24;have h128:=hok.n128;have htl:=hok.tlt;have hc0:aI 152 (cond V (T:Int)):=gT (dp (V:=V) (m:=128) (by omega) h24) (by omega);have HST0:=af (eQ.start hok)
 have HW0:Hid (∀ W',Calls Tryz.prog 125 #[.agg #[.int .i64 0,.int .u64 0,.int .u64 0],.agg #[.int .i64 V,.slice a n c,.int .i64 T],.int .i64 T] W' fun e w'=>e=.returned (cH (cond V (T:Int)))/\ag W' w'):=af fun W'=>by
  have:=jO (c:=0) (fun j hj=>by simp at hj) V (.slice a n c) T ⟨_,_,_,rfl⟩ h24 (T:Int) (by omega) W';rw [show bo V 0 (T:Int)=cond V (T:Int) by unfold bo;simp] at this;exact this
 obtain ⟨c0,hc00⟩:∃ c0,c0=cond V (T:Int):=⟨_,rfl⟩;obtain ⟨nl,hnl⟩:∃ nl,nl=f.nodes.length:=⟨_,rfl⟩;rw [<-hc00] at hc0 HST0 HW0;rw [<-hnl] at HST0 h128;have HNL:=af hnl;have HC0:=af hc0;obtain ⟨x0,hx0⟩:∃ x,x=bZ c0:=⟨_,rfl⟩;obtain ⟨x1,hx1⟩:∃ x,x=bW c0:=⟨_,rfl⟩;obtain ⟨x2,hx2⟩:∃ x,x=bP c0:=⟨_,rfl⟩;have HOW:Hid (∀ (W:World) (B:Nat),B<=W.heap.size->aK (W.alloc (.cells #[.int .i64 x0,.int .u64 x1,.int .u64 x2] 99)) B (.slice (some ⟨W.heap.size,0,none⟩) 1 1) [c0]):=af fun W B hB=>by rw [hx0,hx1,hx2];exact CN W B c0 hB hc0
 unfold cH at HW0;rw [<-hx0,<-hx1,<-hx2] at HW0;clear hv hok hck hs hc0 hc00 hnl hx0 hx1 hx2 htl;go_enter Tryz.func77,Tryz.ntmps77;go_wp2_with (go_at_call 124;refine (HSY.out _ ((ag.refl _).alloc _)).mono ?_;rintro e w1 ⟨rfl,hk1⟩;have d0:=hk1.cell (p:=⟨w.heap.size,0,none⟩) (v:=.int .i64 V) (by simp);have d1:=hk1.cell (p:=⟨w.heap.size,1,none⟩) (v:=.slice a n c) (by simp);have d2:=hk1.cell (p:=⟨w.heap.size,2,none⟩) (v:=.int .i64 T) (by simp);have HK1:=af (((ag.refl _).alloc _).trans hk1);clear hk1);refine (HW0.out _).mono ?_;rintro e w2 ⟨rfl,hk2⟩;have d0':=hk2.cell d0;have d1':=hk2.cell d1;have d2':=hk2.cell d2;have HK2:=af (HK1.out.trans hk2)
 have hsz2:w.heap.size<w2.heap.size:=by
  by_cases h:w.heap.size<w2.heap.size
  ·exact h
  ·simp [World.cell?,Array.getElem?_eq_none (Nat.le_of_not_lt h)] at d0'
 clear d0 d1 d2 hk2 HK1;go_wp2;obtain ⟨L1,hL1⟩:∃ L:World,L=w2.alloc (.cells #[.int .i64 x0,.int .u64 x1,.int .u64 x2] 99):=⟨_,rfl⟩;have HL1:=af hL1;clear hL1;have e0:=(by rw [HL1.out];exact ((ag.refl w2).alloc _).cell d0':L1.cell? ⟨w.heap.size,0,none⟩=some (.int .i64 V));have e1:=(by rw [HL1.out];exact ((ag.refl w2).alloc _).cell d1':L1.cell? ⟨w.heap.size,1,none⟩=some (.slice a n c));have e2:=(by rw [HL1.out];exact ((ag.refl w2).alloc _).cell d2':L1.cell? ⟨w.heap.size,2,none⟩=some (.int .i64 T));have HKL:Hid (ag w L1):=af (by rw [HL1.out];exact HK2.out.trans ((ag.refl w2).alloc _));clear d0' d1' d2';go_loopg [7,8] nl (fun kx s7 s8 wr=>∃ (L st:List Nat) (m:Nat) (vr vs:Value),s7=vr/\s8=vs/\m<=kx/\Hid (eQ V T f L st m/\st.length+m<=128)/\Hid (aK wr w2.heap.size vr L)/\Hid (OwnInts wr L1.heap.size vs (aL st))/\Hid (ag L1 wr))
 case atStart=>exact ⟨[c0],[],nl,_,_,rfl,rfl,Nat.le_refl _,af ⟨HST0.out,by simpa using h128⟩,af (HOW.out _ _ (Nat.le_refl _)),af (OwnInts.nil _ _),af (by rw [HL1.out];exact ag.refl _)⟩
 case round =>
  obtain ⟨wo,rfl⟩:∃ wo:World,wo=wr:=⟨_,rfl⟩;obtain ⟨L,st,m,vr,vs,rfl,rfl,hmk,HST,HOR,HOS,HK⟩:=hrel;obtain ⟨va,vc,hvr⟩:=HOR.out.at.shape;obtain ⟨ln,hln⟩:∃ ln,ln=L.length:=⟨_,rfl⟩;rw [<-hln] at hvr;have hlb:ln<=10000:=by rw [hln];exact HOR.out.at.len
  subst hvr;have HLN:=af hln;have HG:=af (rp _ L wo HOR.out.at);have d0:=HK.out.cell e0;have d1:=HK.out.cell e1;have d2:=HK.out.cell e2;clear hln;go_wp2_with fail;refine HG.out.mono ?_;rintro e w3 ⟨⟨r,rfl,hg⟩,hk3⟩;have HGT:=af hg;have HK3:=af hk3;by_cases hr0:r<0
  ·clear hg hk3 d0 d1 d2;go_wp2;go_ret3;refine ⟨?_,HKL.out.trans (HK.out.trans HK3.out)⟩;obtain ⟨R,hR,hp⟩:=HST.out.1.done fun c hc j hj=>by have:=HGT.out.1 c hc j hj;omega
   rw [hR];exact ⟨_,_,L,rfl,(HOR.out.kept HK3.out).zero,hp,(HOS.out.mono (Nat.zero_le _)).kept HK3.out⟩
  ·obtain ⟨i,rfl,hib⟩:=hg.2.resolve_left (by omega);obtain ⟨him,hmk2,_⟩:=HST.out.1.at hib fun c hc j hj=>by have:=hg.1 c hc j hj;omega
   have hle:=HST.out.1.le;have hil:i<f.nodes.length:=by omega
   obtain ⟨b,o,n',c',ua,un,uc,hveq,hn',hnr⟩:=HNR.out i hil;injection hveq with q1 q2 q3
   subst q1;rw [<-q2,<-HNL.out] at hn';have hkd:=HMO.out i hil hmk2;have hok:=HOK.out;have h128':=hok.n128;have hargs:∀ a∈f.nodes[i].args,0<=a/\a<(V:Int)+128:=fun a ha=>by have:=hok.args i hil a ha;omega
   have h16:f.nodes[i].args.length<=16:=jA (hok.argc i hil)
   have hk4:f.nodes[i].kind=4->1<=f.nodes[i].k/\f.nodes[i].k<=f.nodes[i].args.length:=fun h4=>by
    have:=hok.arity i hil;unfold jQ at this;rw [if_neg (by omega),if_pos h4] at this;split at this
    ·omega
    ·cases this
   have hx:f.nodes.getD i bz=f.nodes[i]:=by simp [List.getD_eq_getElem?_getD,hil]
   obtain ⟨x,hxx⟩:∃ x,x=f.nodes[i]:=⟨_,rfl⟩;rw [<-hxx] at hnr hkd hargs h16 hk4 hx;have HX:=af hx;have hin:i<n:=by rw [hn',HNL.out];exact hil
   have hi128:i<128:=by omega
   have HEX:Hid (∀ W q u LL gl,ag w W->w.heap.size<=gl->gl<=W.heap.size->ListAt W gl gl u LL->LL.length<=4097->aI 152 q->Calls Tryz.prog 128 #[.pointer (some ⟨gl,0,none⟩),.agg #[.int .i64 V,.slice (some ⟨b,o,none⟩) n c,.int .i64 T],.agg #[.int .i64 (bZ q),.int .u64 (bW q),.int .u64 (bP q)],.int .i64 i] W fun e w'=>e=.returned (.tuple #[])/\∃ v',ListAt w' gl gl v' ((LL++dV V x i q).take 4097)/\dB gl u v' W w'):=af fun W q u LL gl hk hg1 hg2 hL hl hq =>
    ui gl gl V i q b o n c T x ua un uc u LL W (Nat.le_refl _) h24 hg2 hL hl hq hi128 hin (hnr W hk).1 (fun w' hb=>(hnr w' (hk.app (hb.mono hg1))).2) hargs h16 hkd hk4
   clear hnr hkd hargs h16 hk4 hx hxx hok hmk2 q2 q3 hn' hg hib hil;have hsz3:=hk3.size;have d0':=hk3.cell d0;have d1':=hk3.cell d1;have d2':=hk3.cell d2;clear hk3 d0 d1 d2;go_wp2;obtain ⟨L3,hL3⟩:∃ L:World,L=w3.alloc (.cells #[.slice none 0 0] 144):=⟨_,rfl⟩;have HL3:=af hL3;have HK33:Hid (ag w3 L3):=af (by rw [HL3.out];exact (ag.refl _).alloc _);clear hL3;go_loopg [38] ln (fun kx s38 wr=>∃ (k:Nat) (vk:Value),s38=.int .i64 k/\k<=ln/\ln - k<=kx/\Hid (ListAt wr w3.heap.size w3.heap.size vk ((cO V x i (L.take k)).take 4097))/\Hid (dB w3.heap.size (.slice none 0 0) vk L3 wr))
   case atStart=>exact ⟨0,_,rfl,Nat.zero_le _,by omega,af ⟨aj.made w3 _ _,by simpa [cO] using aK.nil _ _⟩,af (by rw [HL3.out];exact dB.of_kept (ag.refl _))⟩
   case round =>
    obtain ⟨k,vk,rfl,hk,hkx,HLI,HFI⟩:=hrel;have hkwi:ag w3 wr:=Ac HK33.out HFI.out (Nat.le_refl _) rfl;have HKI:=af hkwi;have hszi:=hkwi.size;by_cases hlt:k<ln
    ·have hkl:k<L.length:=by have:=HLN.out;omega
     have hrows:=HOR.out.at.kept (HK3.out.trans hkwi);obtain ⟨b2,o2,rfl,hrg⟩:=hrows.get k hkl;have hql:=hrows.lt L[k] (List.getElem_mem _);have hnext:=xL V x i L k hkl;obtain ⟨q,hqq⟩:∃ q,q=L[k]:=⟨_,rfl⟩;rw [<-hqq] at hrg hql hnext;unfold ug at hnext;have f0:=hkwi.cell d0';have f1:=hkwi.cell d1';have f2:=hkwi.cell d2';have hlen:((cO V x i (L.take k)).take 4097).length<=4097:=by rw [List.length_take];omega
     have HKWI:Hid (∀ W,ag wr W->ag w W):=af fun W hk=>HKL.out.trans (HK.out.trans (HK3.out.trans (hkwi.trans hk)))
     have HHAS:Hid (∀ W,Calls Tryz.prog 127 #[cH q,.int .i64 i] W fun e w'=>e=.returned (.bool (q.testBit (24+i)))/\ag W w'):=af fun W=>Bm hql i hi128 W
     unfold cH at HHAS;have hkn:(k:Int)<(ln:Int):=by omega
     cases hq:q.testBit (24+i) with
     | true =>
      rw [hq] at hnext HHAS;rw [if_pos rfl] at hnext
      have HE2:Hid (∀ W,ag wr W->Calls Tryz.prog 128 #[.pointer (some ⟨w3.heap.size,0,none⟩),.agg #[.int .i64 V,.slice (some ⟨b,o,none⟩) n c,.int .i64 T],.agg #[.int .i64 (bZ q),.int .u64 (bW q),.int .u64 (bP q)],.int .i64 i] W fun e w'=>e=.returned (.tuple #[])/\∃ v',Hid (ListAt w' w3.heap.size w3.heap.size v' ((cO V x i (L.take (k+1))).take 4097))/\Hid (dB w3.heap.size (.slice none 0 0) v' L3 w')):=af fun W hk=>by
       have:=HEX.out W q vk _ w3.heap.size (HKWI.out W hk) (by have:=HKL.out.size;have:=HK.out.size;omega) (by have:=hk.size;omega) (ListAt.kept HLI.out hk) hlen hql;rw [lU,<-hnext] at this;exact this.mono fun _ _ ⟨h1,v',h2,h3⟩=>⟨h1,v',af h2,af ((HFI.out.trans (dB.of_kept hk)).trans h3)⟩
      have HRG:Hid (wr.rangeAt b2 (o2+k*3) [.int .i64 (bZ q),.int .u64 (bW q),.int .u64 (bP q)]):=af hrg;generalize bZ q=z0 at *;generalize bW q=z1 at *;generalize bP q=z2 at *;clear hrg hql hnext hqq hrows hq HEX d0' d1' d2' HLI HFI hkwi hlen;go_wp2_with (first | (with_reducible refine wpList_load_mid rfl 99 _ rfl b2 (o2+k*3) rfl _ _ HRG.out Tryz.underlying99 rfl (by kernel_rfl) ?_) | (go_at_call 127;refine (HHAS.out _).mono ?_;rintro e w4 ⟨rfl,hk4⟩;have b0:=hk4.cell (p:=⟨wr.heap.size,0,none⟩) (v:=.int .i64 z0) (by simp);have b1:=hk4.cell (p:=⟨wr.heap.size,1,none⟩) (v:=.int .u64 z1) (by simp);have b2:=hk4.cell (p:=⟨wr.heap.size,2,none⟩) (v:=.int .u64 z2) (by simp);have HK4:=af (((ag.refl wr).alloc _).trans hk4);have g0:=HK4.out.cell f0;have g1:=HK4.out.cell f1;have g2:=HK4.out.cell f2;clear hk4) | (go_at_call 128;refine (HE2.out _ HK4.out).mono ?_;rintro e w5 ⟨rfl,v',h3,h4⟩));go_roundg (ln - (k+1))
      case measure=>omega
      case rel=>exact ⟨k+1,v',by go_num,by omega,Nat.le_refl _,h3,h4⟩
     | false =>
      rw [hq] at hnext HHAS;rw [if_neg (by simp)] at hnext
      have HE2:Hid (∀ W,ag wr W->Calls Tryz.prog 129 #[.pointer (some ⟨w3.heap.size,0,none⟩),.agg #[.int .i64 (bZ q),.int .u64 (bW q),.int .u64 (bP q)]] W fun e w'=>e=.returned (.tuple #[])/\∃ v',Hid (ListAt w' w3.heap.size w3.heap.size v' ((cO V x i (L.take (k+1))).take 4097))/\Hid (dB w3.heap.size (.slice none 0 0) v' L3 w')):=af fun W hk=>by
       have:=kU w3.heap.size w3.heap.size q vk _ W (ListAt.kept HLI.out hk) hql hlen (Nat.le_refl _);rw [jy hlen,lU,<-hnext] at this;exact this.mono fun _ _ ⟨h1,v',h2,h3⟩=>⟨h1,v',af h2,af ((HFI.out.trans (dB.of_kept hk)).trans h3)⟩
      have HRG:Hid (wr.rangeAt b2 (o2+k*3) [.int .i64 (bZ q),.int .u64 (bW q),.int .u64 (bP q)]):=af hrg;generalize bZ q=z0 at *;generalize bW q=z1 at *;generalize bP q=z2 at *;clear hrg hql hnext hqq hrows hq HEX d0' d1' d2' HLI HFI hkwi hlen;go_wp2_with (first | (with_reducible refine wpList_load_mid rfl 99 _ rfl b2 (o2+k*3) rfl _ _ HRG.out Tryz.underlying99 rfl (by kernel_rfl) ?_) | (go_at_call 127;refine (HHAS.out _).mono ?_;rintro e w4 ⟨rfl,hk4⟩;have b0:=hk4.cell (p:=⟨wr.heap.size,0,none⟩) (v:=.int .i64 z0) (by simp);have b1:=hk4.cell (p:=⟨wr.heap.size,1,none⟩) (v:=.int .u64 z1) (by simp);have b2:=hk4.cell (p:=⟨wr.heap.size,2,none⟩) (v:=.int .u64 z2) (by simp);have HK4:=af (((ag.refl wr).alloc _).trans hk4);clear hk4) | (go_at_call 129;refine (HE2.out _ HK4.out).mono ?_;rintro e w5 ⟨rfl,v',h3,h4⟩));go_roundg (ln - (k+1))
      case measure=>omega
      case rel=>exact ⟨k+1,v',by go_num,by omega,Nat.le_refl _,h3,h4⟩
    ·have hke:k=ln:=by omega
     have HLE:Hid (ListAt wr w3.heap.size w3.heap.size vk ((cO V x i L).take 4097)):=af (by have h:=HLI.out;rw [hke,HLN.out,List.take_length] at h;exact h);have c0:=HLE.out.1.cell (i:=0) (by simp);simp only [List.getElem_cons_zero] at c0;obtain ⟨vka,vkc,hvk⟩:=HLE.out.2.at.shape;obtain ⟨n2,hn2⟩:∃ n2,n2=((cO V x i L).take 4097).length:=⟨_,rfl⟩;rw [<-hn2] at hvk;subst hvk;have HN2:=af hn2;have hn2b:n2<=4097:=by rw [hn2,List.length_take];omega
     have HHI:Hid ((∃ c∈L,c.testBit (24+i)=true)/\∀ c∈L,∀ j,c.testBit (24+j)=true->j<=i):=af ⟨by
      rcases HGT.out.2 with h | ⟨j,hj,hc⟩
      ·omega
      ·rw [show i=j by omega];exact hc,fun c hc j hj=>by have:=HGT.out.1 c hc j hj;omega⟩
     clear hke hn2 HLI HEX HFI;by_cases hbig:4096<n2
     ·have hbig':(n2:Int) > 4096:=by omega
      go_wp2;go_ret3;refine ⟨?_,HKL.out.trans (HK.out.trans (HK3.out.trans HKI.out))⟩;rw [HST.out.1.full HHI.out.1 HHI.out.2 (by rw [HX.out];have:=HN2.out;rw [List.length_take] at this;omega)];exact nD _
     ·have hbig':¬ (n2:Int) > 4096:=by omega
      have hfull:(cO V x i L).length<=4096:=by have:=HN2.out;rw [List.length_take] at this;omega
      have HLS:=af (oD _ _ wr HLE.out.2.at (by rw [List.length_take];omega));rw [List.take_of_length_le (by omega)] at HLS;have HFU:=af hfull;clear hfull HLE;go_wp2_with fail;refine HLS.out.mono ?_;rintro e w6 ⟨⟨v6,M,rfl,ho6,hp6⟩,hk6⟩;have HO6:=af ho6;have HP6:=af hp6;have HK6:=af hk6;obtain ⟨va6,vc6,hv6⟩:=ho6.at.shape;obtain ⟨n6,hn6⟩:∃ n6,n6=M.length:=⟨_,rfl⟩;rw [<-hn6] at hv6;have hn6b:n6<=10000:=by rw [hn6];exact ho6.at.len
      subst hv6;have HN6:=af hn6;have HKA:Hid (ag wo w6):=af (HK3.out.trans (HKI.out.trans hk6));have HKB:Hid (ag L1 w6):=af (HK.out.trans HKA.out);have hsz6:=hk6.size;clear hn6 ho6 hp6 hk6 HLS;by_cases hbig6:1024<n6
      ·have hbig6':(n6:Int) > 1024:=by omega
       go_wp2;go_ret3;refine ⟨?_,HKL.out.trans HKB.out⟩;rw [HST.out.1.many (M:=M) HHI.out.1 HHI.out.2 (by rw [HX.out];exact HP6.out) (by rw [<-HN6.out];exact hbig6)];exact nD _
      ·have hbig6':¬ (n6:Int) > 1024:=by omega
       have HS2:=af (HST.out.1.next (M:=M) HOK.out HHI.out.1 HHI.out.2 (by rw [HX.out];exact HFU.out) (by rw [HX.out];exact HP6.out) (by rw [<-HN6.out];omega));have HOS6:=af (HOS.out.kept HKA.out);have hst:=HST.out.2;have hstl:(aL st).length=st.length:=by simp [aL]
       have hszL:=HKB.out.size;have HOWN:Hid (∀ g,u8.ownBlock=some g->g<wr.heap.size):=af fun g hg=>by have:=HOS.out.own_lt hg;have:=(HK3.out.trans HKI.out).size;omega
       go_wp2_with (at_builtin;refine eA rfl _ _ rfl L1.heap.size _ (aL st) rfl (HOS6.out.kept ((ag.refl _).alloc _)) _ (n6:Int) rfl (by simp) (by rw [hstl];omega) (by simp;omega) ?_;intro v7 w7 hown7 hg7 hb7;have O7:=af hown7;have HB7:=af hb7;have HG7:=af hg7;clear hown7 hb7 hg7);go_roundg i
       case measure=>omega
       case rel =>
        refine ⟨M,st++[n6],i,_,v7,rfl,rfl,Nat.le_refl _,af ⟨by have:=HS2.out;rw [<-HN6.out] at this;exact this,by simp;omega⟩,af ?_,af ?_,af ?_⟩
        ·refine ((HO6.out.kept ((ag.refl _).alloc _)).grown HG7.out fun g hg e=>?_).mono (by have h1:=HK.out.size;have h2:=HKI.out.size;have h3:=HK3.out.size;have h4:L1.heap.size=w2.heap.size+1:=(by rw [HL1.out];simp);omega);have h1:=(HO6.out.own_ge hg).1;have h2:=HOWN.out g e.symm;omega
        ·have:=O7.out;simpa [aL] using this
        ·exact (HKB.out.alloc _).app HB7.out
theorem zD (n:Nat):0<n->n &&& (n - 1)<n/\pc n=pc (n &&& (n - 1))+1:=by
 induction n using Nat.strongRecOn with
 | ind n ih =>
  intro h0;have bits:∀ a b:Nat,a=b ↔ a % 2=b % 2/\a / 2=b / 2:=fun a b=>by omega
  by_cases h:n % 2=1
  ·have e:n &&& (n - 1)=n - 1:=by
    rw [bits]
    have e1:(n &&& (n - 1)) % 2=0:=by
     rw [show (2:Nat)=2^1 from rfl,Nat.and_mod_two_pow,show (n - 1) % 2^1=0 by omega];simp
    have e2:(n &&& (n - 1)) / 2=n / 2:=by
     rw [show (2:Nat)=2^1 from rfl,Nat.and_div_two_pow,show (n - 1) / 2^1=n / 2^1 by omega,Nat.and_self]
    omega
   rw [e];refine ⟨by omega,?_⟩;rw [cw n,cw (n - 1),show (n - 1) / 2=n / 2 by omega];omega
  ·have h2:=ih (n / 2) (by omega) (by omega)
   have e1:(n &&& (n - 1)) % 2=0:=by
    rw [show (2:Nat)=2^1 from rfl,Nat.and_mod_two_pow,show n % 2^1=0 by omega];simp
   have e2:(n &&& (n - 1)) / 2=n / 2 &&& (n / 2 - 1):=by
    rw [show (2:Nat)=2^1 from rfl,Nat.and_div_two_pow,show (n - 1) / 2^1=n / 2^1 - 1 by omega]
   refine ⟨by omega,?_⟩;rw [cw n,cw (n &&& (n - 1)),e1,e2];omega
theorem po {n:Nat} (h:Mk n) (w:World):Calls Tryz.prog 230 #[.int .i64 n] w fun e w'=>e=.returned (.int .i64 n)/\w=w':=by
 have hc:=ud h;go_enter Tryz.func230,Tryz.ntmps230;go_wp2;go_ret;exact ⟨rfl,rfl⟩
theorem pH (s:Int) (w:World):Calls Tryz.prog 222 #[.int .i64 s] w fun e w'=>e=.returned (.bool (decide (0<=s/\s<=16777215)))/\w=w':=by
 by_cases h:0<=s
 ·by_cases h2:s<16777216
  all_goals
   go_enter Tryz.func222,Tryz.ntmps222;go_wp2;go_ret;exact ⟨by congr 2;simp;omega,rfl⟩
 ·go_enter Tryz.func222,Tryz.ntmps222;go_wp2;go_ret;exact ⟨by congr 2;simp;omega,rfl⟩
theorem pm {n:Nat} (h:Mk n) (w:World):Calls Tryz.prog 231 #[.int .i64 n] w fun e w'=>e=.returned (.int .i64 (pc n))/\w=w':=by
 obtain ⟨r,hr⟩:∃ r,r=pc n:=⟨_,rfl⟩;rw [<-hr];have HR:=af hr;have h':=h;clear hr;go_enter Tryz.func231,Tryz.ntmps231;go_wp2_with (go_at_call 230;refine (po h' _).mono ?_;rintro e w' ⟨rfl,rfl⟩);go_loop [0,3] (fun s k=>∃ m q:Nat,s=.int .i64 m/\k=.int .i64 q/\m<16777216/\q<=16777216 - m/\Hid (pc m+q=r)) (fun s _=>(intOf s).toNat)
 case atStart=>exact ⟨n,0,rfl,rfl,h,by omega,af (by rw [HR.out];rfl)⟩
 case round =>
  obtain ⟨m,q,rfl,rfl,hm,hq,HI⟩:=hrel;by_cases h0:0<m
  ·have hp:=zD m h0
   have e1:bits .and .i64 (m:Int) ((m:Int) - 1)=((m &&& (m - 1):Nat):Int):=by
    rw [show (m:Int) - 1=((m - 1:Nat):Int) by omega];exact jz _ _ (by omega) (by omega)
   have hne:((m:Int) == 0)=false:=by simp;omega
   have hne2:((m:Int) != 0)=true:=by simp;omega
   have HP:=af hp;clear hp;go_wp2;go_round
   case rel=>exact ⟨m &&& (m - 1),q+1,rfl,by go_num,by have:=HP.out;omega,by have:=HP.out;omega,af (by have:=HP.out;have:=HI.out;omega)⟩
   case measure=>have:=HP.out;simp [intOf];omega
  ·obtain rfl:m=0:=by omega
   go_wp2;go_ret;have hqr:q=r:=by have:=HI.out;rw [gL] at this;omega
   exact ⟨by rw [hqr];rfl,rfl⟩
def mc (a b:Nat):Int:=if a=b then 0 else if dP a b then -1 else 1
theorem rJ {a b:Nat} (ha:Mk a) (hb:Mk b) (w:World):Calls Tryz.prog 170 #[.int .i64 a,.int .i64 b] w fun e w'=>e=.returned (.int .i64 (mc a b))/\w=w':=by
 obtain ⟨r,hr⟩:∃ r,r=mc a b:=⟨_,rfl⟩;rw [<-hr];obtain ⟨x,hx⟩:∃ x,x=pc a:=⟨_,rfl⟩;obtain ⟨y,hy⟩:∃ x,x=pc b:=⟨_,rfl⟩;have HR:=af hr;have HA:Hid (∀ W,Calls Tryz.prog 231 #[.int .i64 a] W fun e w'=>e=.returned (.int .i64 x)/\W=w'):=af (hx ▸ fun W=>pm ha W);have HB:Hid (∀ W,Calls Tryz.prog 231 #[.int .i64 b] W fun e w'=>e=.returned (.int .i64 y)/\W=w'):=af (hy ▸ fun W=>pm hb W);have CA:Hid (∀ W,Calls Tryz.prog 230 #[.int .i64 a] W fun e w'=>e=.returned (.int .i64 a)/\W=w'):=af fun W=>po ha W
 have CB:Hid (∀ W,Calls Tryz.prog 230 #[.int .i64 b] W fun e w'=>e=.returned (.int .i64 b)/\W=w'):=af fun W=>po hb W
 have HX:=af hx;have HY:=af hy;clear hr hx hy ha hb;by_cases e:a=b
 ·have h0:r=0:=by rw [HR.out,mc,if_pos e]
  subst h0;have ee:((a:Int) == (b:Int))=true:=by simp;omega
  clear HX HY;clear e;go_enter Tryz.func170,Tryz.ntmps170
  go_wp2_with (first
   | (go_at_call_of 230 (Value.int .i64 (a:Int));refine (CA.out _).mono ?_;rintro e w' ⟨rfl,rfl⟩)
   | (go_at_call_of 230 (Value.int .i64 (b:Int));refine (CB.out _).mono ?_;rintro e w' ⟨rfl,rfl⟩))
  go_ret;exact ⟨rfl,rfl⟩
 ·have ee:((a:Int) == (b:Int))=false:=by simp;omega
  have HE:=af e;clear e;by_cases h1:x<y
  ·have h0:r=-1:=by rw [HR.out,mc,if_neg HE.out,if_pos (.inl (by rw [<-HX.out,<-HY.out];exact h1))]
   subst h0;have h1':(x:Int)<(y:Int):=by omega
   go_enter Tryz.func170,Tryz.ntmps170
   go_wp2_with (first
    | (go_at_call_of 230 (Value.int .i64 (a:Int));refine (CA.out _).mono ?_;rintro e w' ⟨rfl,rfl⟩)
    | (go_at_call_of 230 (Value.int .i64 (b:Int));refine (CB.out _).mono ?_;rintro e w' ⟨rfl,rfl⟩)
    | (go_at_call_of 231 (Value.int .i64 (a:Int));refine (HA.out _).mono ?_;rintro e w' ⟨rfl,rfl⟩)
    | (go_at_call_of 231 (Value.int .i64 (b:Int));refine (HB.out _).mono ?_;rintro e w' ⟨rfl,rfl⟩))
   go_ret;exact ⟨rfl,rfl⟩
  ·have h1':¬ (x:Int)<(y:Int):=by omega
   by_cases h2:x=y
   ·have h2':((x:Int) == (y:Int))=true:=by simp;omega
    by_cases h3:a<b
    ·have h0:r=-1:=by rw [HR.out,mc,if_neg HE.out,if_pos (.inr ⟨by rw [<-HX.out,<-HY.out];exact h2,h3⟩)]
     subst h0;have h3':(a:Int)<(b:Int):=by omega
     clear HX HY h1;clear h2;go_enter Tryz.func170,Tryz.ntmps170
     go_wp2_with (first
      | (go_at_call_of 230 (Value.int .i64 (a:Int));refine (CA.out _).mono ?_;rintro e w' ⟨rfl,rfl⟩)
      | (go_at_call_of 230 (Value.int .i64 (b:Int));refine (CB.out _).mono ?_;rintro e w' ⟨rfl,rfl⟩)
      | (go_at_call_of 231 (Value.int .i64 (a:Int));refine (HA.out _).mono ?_;rintro e w' ⟨rfl,rfl⟩)
      | (go_at_call_of 231 (Value.int .i64 (b:Int));refine (HB.out _).mono ?_;rintro e w' ⟨rfl,rfl⟩))
     go_ret;exact ⟨rfl,rfl⟩
    ·have h0:r=1:=by
      rw [HR.out,mc,if_neg HE.out,if_neg];rintro (h | h)
      ·rw [<-HX.out,<-HY.out] at h;exact h1 h
      ·exact h3 h.2
     subst h0;have h3':¬ (a:Int)<(b:Int):=by omega
     clear HX HY h1;clear h2;go_enter Tryz.func170,Tryz.ntmps170
     go_wp2_with (first
      | (go_at_call_of 230 (Value.int .i64 (a:Int));refine (CA.out _).mono ?_;rintro e w' ⟨rfl,rfl⟩)
      | (go_at_call_of 230 (Value.int .i64 (b:Int));refine (CB.out _).mono ?_;rintro e w' ⟨rfl,rfl⟩)
      | (go_at_call_of 231 (Value.int .i64 (a:Int));refine (HA.out _).mono ?_;rintro e w' ⟨rfl,rfl⟩)
      | (go_at_call_of 231 (Value.int .i64 (b:Int));refine (HB.out _).mono ?_;rintro e w' ⟨rfl,rfl⟩))
     go_ret;exact ⟨rfl,rfl⟩
   ·have h2':((x:Int) == (y:Int))=false:=by simp;omega
    have h0:r=1:=by
     rw [HR.out,mc,if_neg HE.out,if_neg];rintro (h | h)
     ·rw [<-HX.out,<-HY.out] at h;exact h1 h
     ·rw [<-HX.out,<-HY.out] at h;exact h2 h.1
    subst h0;clear HX HY h1;clear h2;go_enter Tryz.func170,Tryz.ntmps170
    go_wp2_with (first
     | (go_at_call_of 230 (Value.int .i64 (a:Int));refine (CA.out _).mono ?_;rintro e w' ⟨rfl,rfl⟩)
     | (go_at_call_of 230 (Value.int .i64 (b:Int));refine (CB.out _).mono ?_;rintro e w' ⟨rfl,rfl⟩)
     | (go_at_call_of 231 (Value.int .i64 (a:Int));refine (HA.out _).mono ?_;rintro e w' ⟨rfl,rfl⟩)
     | (go_at_call_of 231 (Value.int .i64 (b:Int));refine (HB.out _).mono ?_;rintro e w' ⟨rfl,rfl⟩))
    go_ret;exact ⟨rfl,rfl⟩
theorem am.take {w:World} {a:Option Addr} {c:Nat} {xs:List Int} (h:am w (.slice a xs.length c) xs) (k:Nat) (hk:k<=xs.length):am w (.slice a k c) (xs.take k):=by
 obtain ⟨a',c',h1,⟨h0,hn⟩,h2,h3⟩:=h;cases h1;refine ⟨a,c,by simp [Nat.min_eq_left hk],⟨by simp;omega,hn⟩,by simp;omega,fun i hi=>?_⟩;simp only [List.length_take] at hi;obtain ⟨b,o,h4,h5⟩:=h3 i (by omega);exact ⟨b,o,h4,by simpa using h5⟩
theorem am.drop {w:World} {b o c:Nat} {xs:List Int} (h:am w (.slice (some ⟨b,o,none⟩) xs.length c) xs) (k:Nat) (hk:k<=xs.length):am w (.slice (some ⟨b,o+k,none⟩) (xs.length - k) (c - k)) (xs.drop k):=by
 obtain ⟨a',c',h1,⟨h0,hn⟩,h2,h3⟩:=h;cases h1;refine ⟨some ⟨b,o+k,none⟩,c - k,by simp,⟨by simp;omega,fun h=>by cases h⟩,by simp;omega,fun i hi=>?_⟩;simp only [List.length_drop] at hi;obtain ⟨b',o',h4,h5⟩:=h3 (k+i) (by omega);cases h4;exact ⟨b,o+k,rfl,by simpa [Nat.add_assoc] using h5⟩
theorem aH.take {w:World} {a:Option Addr} {c:Nat} {ns:List Nat} (h:aH w (.slice a ns.length c) ns) (k:Nat) (hk:k<=ns.length):aH w (.slice a k c) (ns.take k):=by
 refine ⟨?_,fun n hn=>h.2 n (List.mem_of_mem_take hn)⟩;have:=am.take (xs:=aL ns) (by simpa using h.1) k (by simpa using hk);simpa [aL,List.map_take] using this
theorem aH.drop {w:World} {b o c:Nat} {ns:List Nat} (h:aH w (.slice (some ⟨b,o,none⟩) ns.length c) ns) (k:Nat) (hk:k<=ns.length):aH w (.slice (some ⟨b,o+k,none⟩) (ns.length - k) (c - k)) (ns.drop k):=by
 refine ⟨?_,fun n hn=>h.2 n (List.mem_of_mem_drop hn)⟩;have:=am.drop (xs:=aL ns) (by simpa using h.1) k (by simpa using hk);simpa [aL,List.map_drop] using this
theorem aH.shape {w:World} {v:Value} {ns:List Nat} (h:aH w v ns):∃ a c,v=.slice a ns.length c/\ns.length<=c/\(ns≠[]->∃ b o,a=some ⟨b,o,none⟩):=by
 obtain ⟨⟨a,c,h1,⟨h0,_⟩,_,h3⟩,_⟩:=h;refine ⟨a,c,by simpa using h1,by simpa using h0,fun hne=>?_⟩
 have:0<(aL ns).length:=by simpa using List.length_pos_iff.2 hne
 obtain ⟨b,o,h4,_⟩:=h3 0 this;exact ⟨b,o,h4⟩
def An:Value->Nat | .slice _ n _=>n | _=>0
structure fk (ns zs xs ys:List Nat):Prop where
 left:(zs++xs).Pairwise dP
 right:(zs++ys).Pairwise dP
 mem:∀ z,z∈ns ↔ z∈zs\/z∈xs\/z∈ys
 len:zs.length+xs.length+ys.length<=ns.length
theorem fk.start (ns:List Nat) (h:Nat):fk ns [] (aQ (ns.take h)) (aQ (ns.drop h)):=by
 refine ⟨by simpa using cW _,by simpa using cW _,fun z=>?_,?_⟩
 ·rw [ci,ci];have:=List.mem_append (a:=z) (s:=ns.take h) (t:=ns.drop h);rw [List.take_append_drop] at this;simpa using this
 ·have h1:=ga (ns.take h);have h2:=ga (ns.drop h);simp at h1 h2⊢;omega
theorem fk.eq {ns zs xs ys:List Nat} {x:Nat} (h:fk ns zs (x :: xs) (x :: ys)):fk ns (zs++[x]) xs ys :=
 ⟨by simpa using h.left,by simpa using h.right,fun z=>by rw [h.mem];simp only [List.mem_append,List.mem_cons,List.not_mem_nil];grind,by have:=h.len;simp at this⊢;omega⟩
theorem fk.lt {ns zs xs ys:List Nat} {x y:Nat} (h:fk ns zs (x :: xs) (y :: ys)) (hl:dP x y):fk ns (zs++[x]) xs (y :: ys):=by
 refine ⟨by simpa using h.left,?_,fun z=>by rw [h.mem];simp only [List.mem_append,List.mem_cons,List.not_mem_nil];grind,by have:=h.len;simp at this⊢;omega⟩;have h1:=List.pairwise_append.1 h.left;have h2:=List.pairwise_append.1 h.right;rw [List.pairwise_append];refine ⟨?_,h2.2.1,?_⟩
 ·rw [List.pairwise_append];exact ⟨h1.1,by simp,fun a ha b hb=>by simp at hb;subst hb;exact h1.2.2 a ha b (List.mem_cons_self ..)⟩
 ·intro a ha b hb;rcases List.mem_append.1 ha with ha | ha
  ·exact h2.2.2 a ha b hb
  ·simp at ha;subst ha;rcases List.mem_cons.1 hb with e | e
   ·rw [e];exact hl
   ·exact gH _ _ _ hl ((List.pairwise_cons.1 h2.2.1).1 b e)
theorem fk.symm {ns zs xs ys:List Nat} (h:fk ns zs xs ys):fk ns zs ys xs :=
 ⟨h.right,h.left,fun z=>by rw [h.mem];constructor <;> (intro h;rcases h with h | h | h <;> simp_all),by have:=h.len;omega⟩
theorem fk.gt {ns zs xs ys:List Nat} {x y:Nat} (h:fk ns zs (x :: xs) (y :: ys)) (hl:dP y x):fk ns (zs++[y]) (x :: xs) ys:=(h.symm.lt hl).symm
theorem fk.doneL {ns zs ys:List Nat} (h:fk ns zs [] ys):zs++[]++ys=aQ ns:=by
 rw [List.append_nil];exact gV ns _ h.right fun x=>by rw [h.mem];simp
theorem fk.doneR {ns zs xs:List Nat} (h:fk ns zs xs []):zs++xs++[]=aQ ns:=by
 rw [List.append_nil];exact gV ns _ h.left fun x=>by rw [h.mem];simp
theorem fk.masks {ns zs xs ys:List Nat} (h:fk ns zs xs ys) (hm:∀ n∈ns,Mk n):(∀ n∈zs,Mk n)/\(∀ n∈xs,Mk n)/\∀ n∈ys,Mk n :=
 ⟨fun n hn=>hm n ((h.mem n).2 (.inl hn)),fun n hn=>hm n ((h.mem n).2 (.inr (.inl hn))),fun n hn=>hm n ((h.mem n).2 (.inr (.inr hn)))⟩
abbrev Dt (b o n c:Nat):Value:=.slice (if c=1 then some ⟨b,o,none⟩ else some ⟨b,o+1,none⟩) n (c - 1)
theorem aH.rest {w:World} {b o c:Nat} {x:Nat} {xs:List Nat} (h:aH w (.slice (some ⟨b,o,none⟩) (xs.length+1) c) (x :: xs)):aH w (Dt b o xs.length c) xs:=by
 have h1:=aH.drop (ns:=x :: xs) h 1 (by simp);unfold Dt;obtain ⟨a',c',h2,h3,_⟩:=h.shape;cases h2;by_cases hc:c=1
 ·rw [if_pos hc]
  have:xs=[]:=List.eq_nil_of_length_eq_zero (by simp at h3;omega)
  subst this;subst hc;exact ⟨⟨_,0,rfl,⟨by simp,fun h=>by cases h⟩,by simp,fun i hi=>by simp at hi⟩,by simp⟩
 ·rw [if_neg hc];simpa using h1
theorem aH.head {w:World} {b o c m:Nat} {x:Nat} {xs:List Nat} (h:aH w (.slice (some ⟨b,o,none⟩) m c) (x :: xs)):w.cell? ⟨b,o,none⟩=some (.int .i64 x):=by
 obtain ⟨⟨a',c',h2,_,_,h3⟩,_⟩:=h;obtain ⟨b',o',h4,h5⟩:=h3 0 (by simp);cases h2;cases h4;simpa using h5
theorem rU {ns:List Nat} (h:ns.length<2):aQ ns=ns:=by
 match ns,h with
 | [],_=>rfl
 | [x],_=>rfl
theorem yu (w:World) (B:Nat) (hB:B<=w.heap.size):OwnInts (w.alloc (.cells #[] 3)) B (.slice (some ⟨w.heap.size,0,none⟩) 0 0) [] :=
 ⟨⟨by simp,.inr ⟨w.heap.size,0,#[],rfl,hB,heap_alloc_new w _,Nat.le_refl _,by unfold maxLen;omega,by simp,by simp⟩⟩,by simp⟩
theorem qI:∀ (k:Nat) (ns:List Nat) (v:Value) (w:World),ns.length<=k->aH w v ns->ns.length<=8796093022208 ->
  Calls Tryz.prog 107 #[v] w fun e w'=>(∃ v',e=.returned v'/\aF w' 0 v' (aQ ns))/\ag w w':=by
 intro k;induction k using Nat.strongRecOn with
 | ind k ih =>
  intro ns v w hk hv hl;obtain ⟨a,c,rfl,hc,hne⟩:=hv.shape;by_cases h2:ns.length<2
  ·have h2':(ns.length:Int)<2:=by omega
   have HV:=af hv;have HS:=af (rU h2);clear ih hne hv h2;go_enter Tryz.func107,Tryz.ntmps107;go_wp2_with (at_builtin;refine fS rfl _ _ rfl w.heap.size _ [] rfl (yu w _ (Nat.le_refl _)) _ (aL ns) rfl (HV.out.1.kept ((ag.refl _).alloc _)) (by simp;omega) (by simp) ?_;intro v7 w7 hown7 _ hb7;have O7:=af hown7;have HB7:=af hb7;clear hown7 hb7);go_ret;exact ⟨⟨_,rfl,⟨by rw [HS.out];simpa using O7.out.mono (Nat.zero_le _),by rw [HS.out];exact HV.out.2⟩⟩,((ag.refl _).alloc _).app HB7.out⟩
  ·obtain ⟨b,o,rfl⟩:=hne (fun e=>by subst e;simp at h2);obtain ⟨h,hh⟩:∃ h,h=ns.length / 2:=⟨_,rfl⟩;have hT:=hv.take h (by omega);have hD:=hv.drop h (by omega);obtain ⟨n,hn⟩:∃ n,n=ns.length:=⟨_,rfl⟩;rw [<-hn] at hk hl hc h2 hD hh⊢;have HIH:=af ih;have HT:=af hT;have HD:=af hD;have HN:=af hn;have hv2:=af hv.2
   have HL:Hid (∀ W,ag w W->Calls Tryz.prog 107 #[.slice (some ⟨b,o,none⟩) h c] W fun e w'=>(∃ v',e=.returned v'/\aF w' 0 v' (aQ (ns.take h)))/\ag W w') :=
    af fun W hW=>HIH.out h (by omega) (ns.take h) _ W (by simp;omega) (HT.out.kept hW) (by simp;omega)
   have HR:Hid (∀ W,ag w W->Calls Tryz.prog 107 #[.slice (some ⟨b,o+h,none⟩) (n - h) (c - h)] W fun e w'=>(∃ v',e=.returned v'/\aF w' 0 v' (aQ (ns.drop h)))/\ag W w') :=
    af fun W hW=>HIH.out (n - h) (by omega) (ns.drop h) _ W (by have:=HN.out;simp;omega) (HD.out.kept hW) (by have:=HN.out;simp;omega)
   have hq1:Int.tdiv (n:Int) 2=(h:Int):=by rw [Int.tdiv_eq_ediv_of_nonneg (by omega)];omega
   have hq2:(n:Int) / 2=(h:Int):=by omega
   have hq3:IntKind.i64.wrap (h:Int)=(h:Int):=by rw [IntKind.wrap_i64];omega
   have hb1:(0:Int)<=(h:Int):=by omega
   have hb2:(h:Int)<=(n:Int):=by omega
   have hb3:(h:Int)<=(c:Int):=by omega
   have hb4:(n:Int)<=(c:Int):=by omega
   have h2':¬ (n:Int)<2:=by omega
   have hcn:h≠c:=by omega
   clear hT hD hn hv ih hne hh h2;go_enter Tryz.func107,Tryz.ntmps107;go_upto_region 3 with fail
   go_cut [3,4] (fun va vb wx=>aH wx va (aQ (ns.take h))/\aH wx vb (aQ (ns.drop h))/\ag w wx)
   case first =>
    go_region_held3 (fun _=>True) (trivial)
     (first
      | (go_at_call_of 107 (Value.slice (some ⟨b,o,none⟩) h c);refine (HL.out _ (by first | exact (ag.refl _).drew | exact (ag.refl _).drew.trans hk6)).mono ?_;rintro e w5 ⟨⟨va,rfl,hoa⟩,hk5⟩)
      | (go_at_call 107;refine (HR.out _ (by first | exact (ag.refl _).drew | exact (ag.refl _).drew.trans hk5)).mono ?_;rintro e w6 ⟨⟨vb,rfl,hob⟩,hk6⟩))
    all_goals (go_wp2_with fail;go_meet;exact ⟨hoa.sets.kept hk6,hob.sets,((ag.refl _).drew.trans hk5).trans hk6⟩)
   case rest =>
    obtain ⟨hA,hB,hK⟩:=hcut;have HA:=af hA;have HB:=af hB;have HK:=af hK;clear hA hB hK;clear hq1 hq2 hq3 hb1 hb2 hb3 hb4 hcn HIH HT HD HL HR hk;go_wp2_with fail;obtain ⟨wo,rfl⟩:∃ wo:World,wo=wc:=⟨_,rfl⟩;go_loopw [3,4,5,6] (fun va vb vo _ wr=>∃ (xs ys zs:List Nat),Hid (aH wo va xs/\aH wo vb ys/\fk ns zs xs ys)/\OwnInts wr wo.heap.size vo (aL zs)/\ag wo wr) (fun va vb _ _ _=>An va+An vb)
    case atStart=>exact ⟨_,_,[],af ⟨HA.out,HB.out,fk.start ns h⟩,OwnInts.nil _ _,ag.refl _⟩
    case round =>
     obtain ⟨xs,ys,zs,HI,hO,hKr⟩:=hrel;have HO:=af hO;have HKr:=af hKr;have hlen:=HI.out.2.2.len;rw [<-HN.out] at hlen;have hmk:=HI.out.2.2.masks (fun m hm=>hv2.out m hm);have HM:=af hmk;have hsz:=hKr.size;clear hO hKr hmk
     match xs,ys with
     | [],ys =>
      have HA2:=af HI.out.1;have HB2:=af HI.out.2.1;have HMI:=af HI.out.2.2;clear HI HM;obtain ⟨aa,ca,rfl,hca,hna⟩:=HA2.out.shape;obtain ⟨ab,cb,rfl,hcb,hnb⟩:=HB2.out.shape;simp only [List.length_nil] at HA2 hca hlen⊢;clear hna hnb
      go_wp2_with (first
       | (at_builtin;refine fS rfl _ _ rfl wo.heap.size _ (aL zs) rfl HO.out _ (aL []) rfl (HA2.out.1.kept HKr.out) (by simp;omega) hsz ?_;intro v7 w7 hown7 _ hb7;have O7:=af hown7;have HB7:=af hb7;clear hown7 hb7)
       | (at_builtin;refine fS rfl _ _ rfl wo.heap.size _ (aL zs++aL []) rfl O7.out _ (aL ys) rfl (HB2.out.1.kept (HKr.out.app HB7.out)) (by simp;omega) (by have:=(HKr.out.app HB7.out).size;omega) ?_;intro v8 w8 hown8 _ hb8;have O8:=af hown8;have HB8:=af hb8;clear hown8 hb8))
      go_ret;refine ⟨⟨_,rfl,⟨?_,fun z hz=>hv2.out z ((ci ns z).1 hz)⟩⟩,HK.out.trans ((HKr.out.app HB7.out).app HB8.out)⟩;have:=O8.out;rw [<-List.map_append,<-List.map_append,HMI.out.doneL] at this;exact this.mono (Nat.zero_le _)
     | x :: xs,[] =>
      have HA2:=af HI.out.1;have HB2:=af HI.out.2.1;have HMI:=af HI.out.2.2;clear HI HM;obtain ⟨aa,ca,rfl,hca,hna⟩:=HA2.out.shape;obtain ⟨ab,cb,rfl,hcb,hnb⟩:=HB2.out.shape;simp only [List.length_nil,List.length_cons] at HA2 HB2 hca hcb hlen⊢;have hp1:(0:Int)<((xs.length+1:Nat):Int):=by omega
      clear hna hnb
      go_wp2_with (first
       | (at_builtin;refine fS rfl _ _ rfl wo.heap.size _ (aL zs) rfl HO.out _ (aL (x :: xs)) rfl (HA2.out.1.kept HKr.out) (by simp;omega) hsz ?_;intro v7 w7 hown7 _ hb7;have O7:=af hown7;have HB7:=af hb7;clear hown7 hb7)
       | (at_builtin;refine fS rfl _ _ rfl wo.heap.size _ (aL zs++aL (x :: xs)) rfl O7.out _ (aL []) rfl (HB2.out.1.kept (HKr.out.app HB7.out)) (by simp;omega) (by have:=(HKr.out.app HB7.out).size;omega) ?_;intro v8 w8 hown8 _ hb8;have O8:=af hown8;have HB8:=af hb8;clear hown8 hb8))
      go_ret;refine ⟨⟨_,rfl,⟨?_,fun z hz=>hv2.out z ((ci ns z).1 hz)⟩⟩,HK.out.trans ((HKr.out.app HB7.out).app HB8.out)⟩;have:=O8.out;rw [<-List.map_append,<-List.map_append,HMI.out.doneR] at this;exact this.mono (Nat.zero_le _)
     | x :: xs,y :: ys =>
      have HA2:=af HI.out.1;have HB2:=af HI.out.2.1;have HMI:=af HI.out.2.2;have mx:Mk x:=HM.out.2.1 x (List.mem_cons_self ..);have my:Mk y:=HM.out.2.2 y (List.mem_cons_self ..);clear HI HM;obtain ⟨aa,ca,rfl,hca,hna⟩:=HA2.out.shape;obtain ⟨ab,cb,rfl,hcb,hnb⟩:=HB2.out.shape;obtain ⟨ba,oa,rfl⟩:=hna (by simp);obtain ⟨bb,ob,rfl⟩:=hnb (by simp);simp only [List.length_cons] at HA2 HB2 hca hcb hlen⊢;have c1:=HKr.out.cell HA2.out.head;have c2:=HKr.out.cell HB2.out.head;clear hna hnb;have hp1:(0:Int)<((xs.length+1:Nat):Int):=by omega
      have hp2:(0:Int)<((ys.length+1:Nat):Int):=by omega
      have hp3:(1:Int)<=((xs.length+1:Nat):Int):=by omega
      have hp4:(1:Int)<=((ys.length+1:Nat):Int):=by omega
      have hp5:(1:Int)<=(ca:Int):=by omega
      have hp6:(1:Int)<=(cb:Int):=by omega
      have hcmp:∀ W,Calls Tryz.prog 170 #[.int .i64 x,.int .i64 y] W fun e w'=>e=.returned (.int .i64 (mc x y))/\w'=W:=fun W=>(rJ mx my W).mono fun _ _ ⟨h1,h2⟩=>⟨h1,h2.symm⟩
      by_cases hxy:x=y
      ·rw [show mc x y=0 from if_pos hxy] at hcmp;subst hxy;have HC:=af hcmp;clear hcmp;go_wp2_with fail;go_quiet ((go_at_call 170;exact Calls.quiet_of_same (HC.out _)));generalize HWQ:World.drewN wr _=wq;have HKq:Hid (ag wr wq):=af (by rw [<-HWQ];exact (ag.refl _).drewN _);have HSq:wo.heap.size<=wq.heap.size:=by have:=HKq.out.size;omega
       have d1:=HKq.out.cell c1;have d2:=HKq.out.cell c2;clear HWQ c1 c2;go_wp2_with (at_builtin;refine eA rfl _ _ rfl wo.heap.size _ (aL zs) rfl (HO.out.kept (HKq.out.alloc _)) _ (x:Int) rfl (by simp) (by simp;omega) (by simp;omega) ?_;intro v7 w7 hown7 _ hb7;have O7:=af hown7;have HB7:=af hb7;clear hown7 hb7);go_roundw
       case rel=>exact ⟨xs,ys,zs++[x],af ⟨HA2.out.rest,HB2.out.rest,HMI.out.eq⟩,by simpa [aL] using O7.out,((HKr.out.trans (HKq.out.alloc _)).app HB7.out)⟩
       case measure=>simp [An];try omega
      ·by_cases hlt:dP x y
       ·rw [show mc x y=-1 by unfold mc;rw [if_neg hxy,if_pos hlt]] at hcmp;have HC:=af hcmp;have HXY:=af hlt;clear hcmp hlt hxy;go_wp2_with fail;go_quiet ((go_at_call 170;exact Calls.quiet_of_same (HC.out _)));generalize HWQ:World.drewN wr _=wq;have HKq:Hid (ag wr wq):=af (by rw [<-HWQ];exact (ag.refl _).drewN _);have HSq:wo.heap.size<=wq.heap.size:=by have:=HKq.out.size;omega
        have d1:=HKq.out.cell c1;have d2:=HKq.out.cell c2;clear HWQ c1 c2;go_wp2_with (at_builtin;refine eA rfl _ _ rfl wo.heap.size _ (aL zs) rfl (HO.out.kept (HKq.out.alloc _)) _ (x:Int) rfl (by simp) (by simp;omega) (by simp;omega) ?_;intro v7 w7 hown7 _ hb7;have O7:=af hown7;have HB7:=af hb7;clear hown7 hb7);go_roundw
        case rel=>exact ⟨xs,y :: ys,zs++[x],af ⟨HA2.out.rest,HB2.out,HMI.out.lt HXY.out⟩,by simpa [aL] using O7.out,((HKr.out.trans (HKq.out.alloc _)).app HB7.out)⟩
        case measure=>simp [An];try omega
       ·rw [show mc x y=1 by unfold mc;rw [if_neg hxy,if_neg hlt]] at hcmp;have HC:=af hcmp;have hgt:dP y x:=by rcases jH x y with h | h | h;exact absurd h hlt;exact absurd h hxy;exact h
        have HXY:=af hgt;clear hcmp hlt hxy hgt;go_wp2_with fail;go_quiet ((go_at_call 170;exact Calls.quiet_of_same (HC.out _)));generalize HWQ:World.drewN wr _=wq;have HKq:Hid (ag wr wq):=af (by rw [<-HWQ];exact (ag.refl _).drewN _);have HSq:wo.heap.size<=wq.heap.size:=by have:=HKq.out.size;omega
        have d1:=HKq.out.cell c1;have d2:=HKq.out.cell c2;clear HWQ c1 c2;go_wp2_with (at_builtin;refine eA rfl _ _ rfl wo.heap.size _ (aL zs) rfl (HO.out.kept (HKq.out.alloc _)) _ (y:Int) rfl (by simp) (by simp;omega) (by simp;omega) ?_;intro v7 w7 hown7 _ hb7;have O7:=af hown7;have HB7:=af hb7;clear hown7 hb7);go_roundw
        case rel=>exact ⟨x :: xs,ys,zs++[y],af ⟨HA2.out,HB2.out.rest,HMI.out.gt HXY.out⟩,by simpa [aL] using O7.out,((HKr.out.trans (HKq.out.alloc _)).app HB7.out)⟩
        case measure=>simp [An];try omega
def FM (l:List Nat) (s:Nat):Bool:=l.any fun t=>aZ t s
theorem uP {R:List Nat}:∀ {l:List Nat},R.Nodup->(∀ x∈R,x∈l)->l.length<=R.length->l.Perm R:=by
 induction R with
 | nil=>intro l _ _ hl;simp at hl;subst hl;exact .refl _
 | cons x R ih =>
  intro l hn hs hl;have hx:x∈l:=hs x (List.mem_cons_self ..);have h1:=List.perm_cons_erase hx;have h2:=ih (l:=l.erase x) (List.nodup_cons.1 hn).2 (fun y hy=>(List.mem_erase_of_ne (fun e=>(List.nodup_cons.1 hn).1 (by rw [<-e];exact hy))).2 (hs y (List.mem_cons_of_mem _ hy))) (by rw [List.length_erase_of_mem hx];simp at hl;omega);exact h1.trans (h2.cons x)
theorem vG {R rs:List Nat} (hR:Dw R) (hl:rs.length=R.length) (hp:rs.Pairwise (fun a b=>dP a b\/a=b)) (hm:∀ x,x∈rs ↔ x∈R):rs=R:=by
 have hpR:R.Pairwise dP:=by rw [<-hR];exact gi R
 have hnR:R.Nodup:=hpR.imp fun {a b} h e=>by subst e;exact dI a h
 have hperm:=uP hnR (fun x hx=>(hm x).2 hx) (Nat.le_of_eq hl);have hn:rs.Nodup:=hperm.symm.nodup hnR;have hlt:rs.Pairwise dP:=(hp.and hn).imp fun {a b} h=>h.1.resolve_right h.2
 exact d_ dP dI gH rs R hlt hpR hm
def wl (w':World) (e:Ending) (p:List Nat × List Nat):Prop:=∃ v1 v2 L,e=.returned (.tuple #[v1,v2,.nilIface])/\aK w' 0 v1 L/\L.Perm p.1/\OwnInts w' 0 v2 (aL p.2)
theorem qO (v:Value) (f:Fm) (q:Nat) (hq:q≠0) (w:World) (hs:∃ a n c,v=.slice a n c) (hr:∀ W,ag w W->Calls Tryz.prog 77 #[sx v f] W fun e w'=>e=.returned (.tuple #[.slice none 0 0,.slice none 0 0,aY q])/\ag W w') :
  Calls Tryz.prog 34 #[sx v f] w fun e w'=>e=.returned (.tuple #[.slice none 0 0,aY q])/\ag w w':=by
 obtain ⟨a,n,c,rfl⟩:=hs;obtain ⟨vars,nodes,top⟩:=f;have H:Hid (∀ W,ag w W->Calls Tryz.prog 77 #[.agg #[.int .i64 vars,.slice a n c,.int .i64 top]] W fun e w'=>e=.returned (.tuple #[.slice none 0 0,.slice none 0 0,aY q])/\ag W w'):=af hr;rw [aN hq] at *;clear hr hq;show Calls _ _ #[.agg #[.int .i64 vars,.slice a n c,.int .i64 top]] _ _;go_enter Tryz.func34,Tryz.ntmps34;go_wp2_with (go_at_call 77;refine (H.out _ ((ag.refl _).alloc _)).mono ?_;rintro e w1 ⟨rfl,hk1⟩);go_ret2;exact ⟨rfl,((ag.refl _).alloc _).trans hk1⟩
theorem BM (v:Value) (V T:Nat) (p:List Nat × List Nat) (w:World) (hg:Good p.1) (hm:∀ r∈p.1,Mk r) (hs:∃ a n c,v=.slice a n c) (hr:∀ W,ag w W->Calls Tryz.prog 77 #[.agg #[.int .i64 V,v,.int .i64 T]] W fun e w'=>wl w' e p/\ag W w') :
  Calls Tryz.prog 34 #[.agg #[.int .i64 V,v,.int .i64 T]] w fun e w'=>(∃ v',e=.returned (.tuple #[v',.nilIface])/\aF w' 0 v' p.1)/\ag w w':=by
 obtain ⟨a,n,c,rfl⟩:=hs;have H:=af hr;have HG:=af hg;have HM:=af hm;clear hr hg hm;go_enter Tryz.func34,Tryz.ntmps34;go_wp2_with (go_at_call 77;refine (H.out _ ((ag.refl _).alloc _)).mono ?_;rintro e w1 ⟨⟨v1,v2,L,rfl,ho1,hp1,ho2⟩,hk1⟩;obtain ⟨ln,hln⟩:∃ ln,ln=L.length:=⟨_,rfl⟩;obtain ⟨a1,c1,rfl⟩:=ho1.at.shape;obtain ⟨a2,n2,c2,rfl⟩:=ho2.ints.shape;rw [<-hln] at ho1;rw [<-hln];have O1:=af ho1;have HLN:=af hln;have HP1:=af hp1;have hlb:ln<=10000:=(by rw [hln];exact ho1.at.len);clear hln hp1 ho1 ho2);have hk1w:=((ag.refl _).alloc _).trans hk1;have HK1:=af hk1w;clear hk1w hk1;go_loopg [7,21] ln (fun kx s7 s21 wr=>∃ (k:Nat) (vo:Value),s7=vo/\s21=.int .i64 k/\k<=ln/\ln - k<=kx/\Hid (OwnInts wr w1.heap.size vo (aL (L.take k)))/\Hid (ag w1 wr))
 case atStart=>exact ⟨0,_,rfl,rfl,Nat.zero_le _,by omega,af (OwnInts.nil _ _),af (ag.refl _)⟩
 case round =>
  obtain ⟨k,vo,rfl,rfl,hk,hkx,HO,HK⟩:=hrel;have hsz:=HK.out.size;obtain ⟨ao,no,co,hvo⟩:=HO.out.ints.shape;subst hvo;by_cases hlt:k<ln
  ·have hkl:k<L.length:=by have:=HLN.out;omega
   obtain ⟨b,o,rfl,hrg⟩:=(O1.out.at.kept HK.out).get k hkl;have hmk:Mk L[k]:=HM.out _ (HP1.out.mem_iff.1 (List.getElem_mem _));have hev:bZ L[k]=L[k]:=by unfold bZ;unfold Mk at hmk;omega
   have hnext:aL (L.take (k+1))=aL (L.take k)++[((bZ L[k]:Nat):Int)]:=by unfold aL;rw [hev,List.take_succ_eq_append_getElem hkl,List.map_append];rfl
   have hlen:(aL (L.take k)).length=k:=by simp [aL];omega
   have hkn:(k:Int)<(ln:Int):=by omega
   have HRG:Hid (wr.rangeAt b (o+k*3) [.int .i64 (bZ L[k]),.int .u64 (bW L[k]),.int .u64 (bP L[k])]):=af hrg;generalize bZ L[k]=z0 at *;generalize bW L[k]=z1 at *;generalize bP L[k]=z2 at *;have HNX:=af hnext;clear hrg hmk hev hnext;go_wp2_with (first | (with_reducible refine wpList_load_mid rfl 99 _ rfl b (o+k*3) rfl _ _ HRG.out Tryz.underlying99 rfl (by kernel_rfl) ?_) | (at_builtin;refine eA rfl _ _ rfl w1.heap.size _ (aL (L.take k)) rfl (HO.out.kept (((ag.refl _).alloc _).alloc _)) _ (z0:Int) rfl (by simp) (by rw [hlen];omega) (by simp;omega) ?_;intro v7 w7 hown7 _ hb7;have O7:=af hown7;have HB7:=af hb7;clear hown7 hb7));go_roundg (ln - (k+1))
   case measure=>omega
   case rel=>exact ⟨k+1,v7,rfl,by go_num,by omega,Nat.le_refl _,af (by rw [HNX.out];exact O7.out),af (((HK.out.alloc _).alloc _).app HB7.out)⟩
  ·have hke:k=ln:=by omega
   have HF:Hid (OwnInts wr w1.heap.size (.slice ao no co) (aL L)):=af (by have h:=HO.out;rw [hke,HLN.out,List.take_length] at h;exact h);have HML:Hid (∀ n∈L,Mk n):=af fun x hx=>HM.out x (HP1.out.mem_iff.1 hx)
   clear hke;go_wp2_with (go_at_call 78;refine (tD w1.heap.size _ L _ HML.out HF.out hsz).mono ?_;rintro e w3 ⟨rfl,rs,hr1,hr2,hr3,hr4,ho3,hb3⟩;have O3:=af ho3;have R1:=af hr1;have R2:=af hr2;have R3:=af hr3;have R4:=af hr4;clear ho3 hr1 hr2 hr3 hr4);go_ret2;have he:rs=p.1:=vG HG.out.1 (R2.out.trans HP1.out.length_eq) R3.out fun x=>(R4.out x).trans HP1.out.mem_iff
   refine ⟨⟨_,rfl,by rw [<-he];exact O3.out.mono (Nat.zero_le _),HM.out⟩,HK1.out.trans (HK.out.app hb3)⟩
theorem rE (n:Nat) (h:0<n):pc (2*n)=pc n:=by
 conv=>lhs;unfold pc
 rw [if_neg (by omega),show 2*n % 2=0 by omega,show 2*n / 2=n by omega];omega
theorem AU (n:Nat):pc (2*n+1)=1+pc n:=by
 conv=>lhs;unfold pc
 rw [if_neg (by omega),show (2*n+1) % 2=1 by omega,show (2*n+1) / 2=n by omega]
theorem AV (k:Nat):pc (2^k)=1:=by
 induction k with
 | zero=>exact EI.2.1
 | succ k ih=>rw [Nat.pow_succ,Nat.mul_comm,rE _ (Nat.pow_pos (by omega))];exact ih
set_option linter.unusedSimpArgs false in
theorem El:ki 3 5 rn=some ([1,6],[1,2,2]):=by
 obtain ⟨h0,h1,h2,h3,h4,h5,h6,h7⟩:=EI;have p1:pc 16777217=2:=by rw [show 16777217=2*2^23+1 by decide,AU,AV]
 have p2:pc 16777220=2:=by rw [show 16777220=2*(2*(2*2^21+1)) by decide,rE _ (by decide),rE _ (by decide),AU,AV]
 have m1:aP [50331648]=[50331648]:=by simp [aP,aQ,jl,gI,aG]
 have m2:aP [16777217,16777220]=[16777217,16777220]:=by simp +decide [aP,aQ,jl,gI,aG,dP,p1,p2]
 have m3:aP [1,3,5,6]=[1,6]:=by simp +decide [aP,aQ,jl,gI,aG,dP,h0,h1,h2,h3,h4,h5,h6,h7]
 have s2:dq 3 rn 3 [67108864]=(dq 3 rn 2 [50331648]).map fun p=>(p.1,1 :: p.2):=by
  conv=>lhs;unfold dq
  rw [if_pos (by decide),show cO 3 (rn.getD 2 bz) 2 [67108864]=[50331648] by decide,m1];rfl
 have s1:dq 3 rn 2 [50331648]=(dq 3 rn 1 [16777217,16777220]).map fun p=>(p.1,2 :: p.2):=by
  conv=>lhs;unfold dq
  rw [if_pos (by decide),show cO 3 (rn.getD 1 bz) 1 [50331648]=[16777217,16777220] by decide,m2];rfl
 have s0:dq 3 rn 1 [16777217,16777220]=(dq 3 rn 0 [1,6]).map fun p=>(p.1,2 :: p.2):=by
  conv=>lhs;unfold dq
  rw [if_pos (by decide),show cO 3 (rn.getD 0 bz) 0 [16777217,16777220]=[1,3,5,6] by decide,m3];rfl
 unfold ki;rw [show cond 3 ((5:Nat):Int)=67108864 by decide,show rn.length=3 from rfl,s2,s1,s0];rfl
def Ev (w:World) (B:Nat) (v:Value) (bs:List Bool):Prop:=w.ownsRow B 4 1 v bs.length (bs.map Value.bool)/\bs.length<=1000000
theorem wM (s k:Nat) (hs:s<16777216):(bits .and .i64 ((s:Int) / 2^k) 1 == 1)=s.testBit k:=by
 have e:(s:Int) / 2^k=((s / 2^k:Nat):Int):=by simp
 have hle:s / 2^k<=s:=Nat.div_le_self _ _;rw [e,show (1:Int)=((1:Nat):Int) from rfl,jz _ _ (by omega) (by omega),Nat.testBit_eq_decide_div_mod_eq,Nat.and_one_is_mod];rw [Bool.eq_iff_iff];simp;omega
def EQ (w:World) (v:Value) (bs:List Bool):Prop :=
 ∃ (a:Option Addr) (c:Nat),v=.slice a bs.length c/\bs.length<=c/\bs.length<=1000000/\∀ i (_:i<bs.length),∃ b o,a=some ⟨b,o,none⟩/\w.cell? ⟨b,o+i,none⟩=some (.bool (bs.getD i false))
def nv:List Nat->Nat
 | []=>0
 | x :: l=>x+4294967296*nv l
def nw (n:Nat):List Nat:=if h:n=0 then [] else n % 4294967296 :: nw (n / 4294967296)
termination_by n
decreasing_by exact Nat.div_lt_self (by omega) (by omega)
def Wd (l:List Nat):Prop:=∀ x∈l,x<4294967296
theorem Wd.nil:Wd []:=fun x h=>by simp at h
theorem Wd.cons {x:Nat} {l:List Nat} (h:x<4294967296) (k:Wd l):Wd (x :: l):=fun y hy=>(List.mem_cons.1 hy).elim (fun e=>by rw [e];exact h) (k y)
theorem Wd.tail {x:Nat} {l:List Nat} (h:Wd (x :: l)):Wd l:=fun y hy=>h y (List.mem_cons_of_mem _ hy)
theorem Wd.head {x:Nat} {l:List Nat} (h:Wd (x :: l)):x<4294967296:=h x (List.mem_cons_self ..)
theorem Wd.take {l:List Nat} (h:Wd l) (n:Nat):Wd (l.take n):=fun y hy=>h y (List.mem_of_mem_take hy)
theorem Wd.drop {l:List Nat} (h:Wd l) (n:Nat):Wd (l.drop n):=fun y hy=>h y (List.mem_of_mem_drop hy)
theorem Wd.app {a b:List Nat} (h:Wd a) (k:Wd b):Wd (a++b):=fun y hy=>(List.mem_append.1 hy).elim (h y) (k y)
theorem Wd.set {l:List Nat} (h:Wd l) (i x:Nat) (hx:x<4294967296):Wd (l.set i x):=fun y hy=>(List.mem_or_eq_of_mem_set hy).elim (h y) (fun e=>by rw [e];exact hx)
theorem Wd.getD {l:List Nat} (h:Wd l) (i:Nat):l.getD i 0<4294967296:=by
 rw [List.getD_eq_getElem?_getD];cases hi:l[i]? with
 | none=>simp
 | some x=>simpa using h x (List.mem_of_getElem? hi)
theorem Wd.zeros (n:Nat):Wd (List.replicate n 0):=fun y hy=>by have:=List.eq_of_mem_replicate hy;omega
theorem cj:nv []=0:=rfl
theorem b_ (x:Nat) (l:List Nat):nv (x :: l)=x+4294967296*nv l:=rfl
theorem mE (a b:List Nat):nv (a++b)=nv a+4294967296^a.length*nv b:=by
 induction a with
 | nil=>simp [nv]
 | cons x a ih=>rw [List.cons_append,b_,b_,ih,List.length_cons,Nat.pow_succ,Nat.mul_add,<-Nat.mul_assoc,Nat.mul_comm 4294967296 (4294967296^a.length)];omega
theorem di {a:List Nat} (h:Wd a):nv a<4294967296^a.length:=by
 induction a with
 | nil=>simp [nv]
 | cons x a ih =>
  have h1:=ih h.tail;have h2:=h.head;rw [b_,List.length_cons,Nat.pow_succ];omega
theorem lI (n:Nat):nv (List.replicate n 0)=0:=by
 induction n with
 | zero=>rfl
 | succ n ih=>rw [List.replicate_succ,b_,ih]
theorem ar (a:List Nat) (i:Nat):nv (a.take (i+1))=nv (a.take i)+a.getD i 0*4294967296^i:=by
 by_cases h:i<a.length
 ·rw [List.take_succ_eq_append_getElem h,mE,b_,cj,List.length_take,Nat.min_eq_left (Nat.le_of_lt h),Nat.mul_comm];simp [List.getD_eq_getElem?_getD,h]
 ·rw [List.take_of_length_le (by omega),List.take_of_length_le (by omega)];simp [List.getD_eq_getElem?_getD,Nat.le_of_not_lt h]
theorem ay (a:List Nat) (i:Nat) (h:a.length<=i):nv (a.take i)=nv a:=by rw [List.take_of_length_le h]
theorem e_ (a:List Nat) (i:Nat) (h:i<=a.length):nv a=nv (a.take i)+4294967296^i*nv (a.drop i):=by
 conv=>lhs;rw [<-List.take_append_drop i a]
 rw [mE,List.length_take,Nat.min_eq_left h]
theorem rz (l:List Nat):∀ (i x:Nat),i<l.length->nv (l.set i x)+l.getD i 0*4294967296^i=nv l+x*4294967296^i:=by
 induction l with
 | nil=>intro i x h;simp at h
 | cons y l ih =>
  intro i x h;cases i with
  | zero=>simp [b_];omega
  | succ i =>
   have:=ih i x (by simpa using h);rw [List.set_cons_succ,b_,b_,List.getD_cons_succ,Nat.pow_succ,<-Nat.mul_assoc,<-Nat.mul_assoc,Nat.mul_comm _ 4294967296,Nat.mul_comm (x*_) 4294967296];omega
theorem bN:nw 0=[]:=by rw [nw];simp
theorem mG {n:Nat} (h:n≠0):nw n=n % 4294967296 :: nw (n / 4294967296):=by rw [nw];simp [h]
theorem dK:∀ n,Wd (nw n):=by
 intro n;induction n using Nat.strongRecOn with
 | _ n ih =>
  by_cases h:n=0
  ·subst h;rw [bN];exact Wd.nil
  ·rw [mG h];exact Wd.cons (Nat.mod_lt _ (by omega)) (ih _ (Nat.div_lt_self (by omega) (by omega)))
theorem aq:∀ n,nv (nw n)=n:=by
 intro n;induction n using Nat.strongRecOn with
 | _ n ih =>
  by_cases h:n=0
  ·subst h;rw [bN];rfl
  ·rw [mG h,b_,ih _ (Nat.div_lt_self (by omega) (by omega))];omega
def Pl (l:List Nat):Prop:=∀ h:l≠[],l.getLast h≠0
theorem w_:∀ {l:List Nat},Wd l->Pl l->nw (nv l)=l:=by
 intro l;induction l with
 | nil=>intro _ _;exact bN
 | cons x l ih =>
  intro hw hp;have hx:=hw.head
  have hne:nv (x :: l)≠0:=by
   rw [b_];by_cases hl:l=[]
   ·subst hl;have:=hp (by simp);simp at this;rw [cj];omega
   ·intro h0;have h1:nv l=0:=by omega
    have h2:=ih hw.tail (fun h=>by have:=hp (by simp);rwa [List.getLast_cons h] at this);rw [h1,bN] at h2;exact hl h2.symm
  rw [mG hne,b_];have e1:(x+4294967296*nv l) % 4294967296=x:=by omega
  have e2:(x+4294967296*nv l) / 4294967296=nv l:=by omega
  rw [e1,e2,ih hw.tail fun h=>by have:=hp (by simp);rwa [List.getLast_cons h] at this]
theorem AH (n:Nat):Pl (nw n):=by
 induction n using Nat.strongRecOn with
 | _ n ih =>
  by_cases h:n=0
  ·subst h;rw [bN];intro h;exact absurd rfl h
  ·rw [mG h];intro _;have h2:=ih (n / 4294967296) (Nat.div_lt_self (by omega) (by omega));by_cases h3:nw (n / 4294967296)=[]
   ·have h4:n / 4294967296=0:=by have:=aq (n / 4294967296);rw [h3] at this;exact this.symm
    simp [h3];omega
   ·rw [List.getLast_cons h3];exact h2 h3
theorem rA {a:List Nat} (hw:Wd a) {n:Nat} (hn:n<=a.length) (hz:∀ i,n<=i->a.getD i 0=0) (hl:n=0\/a.getD (n - 1) 0≠0):nw (nv a)=a.take n:=by
 have h1:nv a=nv (a.take n):=by
  have:∀ k,nv (a.take (n+k))=nv (a.take n):=by
   intro k;induction k with
   | zero=>rfl
   | succ k ih=>rw [<-Nat.add_assoc,ar,ih,hz (n+k) (by omega),Nat.zero_mul,Nat.add_zero]
  have h2:=this a.length;rw [ay a _ (by omega)] at h2;exact h2
 rw [h1];refine w_ (hw.take n) fun h=>?_
 have hpos:0<n:=by
  rcases Nat.eq_zero_or_pos n with rfl | h2
  ·simp at h
  ·exact h2
 have:=hl.resolve_left (by omega);rw [List.getLast_eq_getElem];simp only [List.getElem_take,List.length_take,Nat.min_eq_left hn];rw [List.getD_eq_getElem?_getD,List.getElem?_eq_getElem (by omega)] at this;simpa using this
theorem aJ {n k:Nat}:(nw n).length<=k ↔ n<4294967296^k:=by
 constructor
 ·intro h;have h1:=di (dK n);rw [aq] at h1;exact Nat.lt_of_lt_of_le h1 (Nat.pow_le_pow_right (by omega) h)
 ·intro h;induction k generalizing n with
  | zero=>simp at h;subst h;rw [bN];simp
  | succ k ih =>
   by_cases h0:n=0
   ·subst h0;rw [bN];simp
   ·rw [mG h0,List.length_cons];have:=ih (n:=n / 4294967296) (by rw [Nat.pow_succ] at h;exact Nat.div_lt_of_lt_mul (by rw [Nat.mul_comm];exact h));omega
theorem cG {n:Nat}:nw n=[] ↔ n=0:=by
 constructor
 ·intro h;have:=aq n;rw [h] at this;exact this.symm
 ·intro h;rw [h];exact bN
theorem sU {a b:List Nat} (ha:Wd a) (hl:a.length=b.length) {k:Nat} (hk:k<a.length) (hd:∀ i,k<i->a.getD i 0=b.getD i 0) (hlt:a.getD k 0<b.getD k 0):nv a<nv b:=by
 have key:∀ j,nv (a.take (k+1+j))<nv (b.take (k+1+j)):=by
  intro j;induction j with
  | zero =>
   rw [Nat.add_zero,ar,ar];have h1:=di (ha.take k);rw [List.length_take,Nat.min_eq_left (Nat.le_of_lt hk)] at h1;have h2:(a.getD k 0+1)*4294967296^k<=b.getD k 0*4294967296^k:=Nat.mul_le_mul_right _ hlt;rw [Nat.add_mul,Nat.one_mul] at h2;omega
  | succ j ih =>
   rw [<-Nat.add_assoc,ar,ar,hd (k+1+j) (by omega)];omega
 have:=key a.length
 rwa [ay a _ (by omega),ay b _ (by omega)] at this
theorem AG {a b:List Nat} (hl:a.length=b.length) (hd:∀ i,a.getD i 0=b.getD i 0):a=b:=by
 refine List.ext_getElem hl fun i h1 h2=>?_
 have:=hd i;simpa [List.getD_eq_getElem?_getD,h1,h2] using this
theorem mF {m n:Nat} (h:(nw m).length<(nw n).length):m<n:=by
 have h1:=(aJ (n:=m)).1 (Nat.le_refl _);have h2:¬ n<4294967296^(nw m).length:=fun h2=>by have:=aJ.2 h2;omega
 omega
theorem eY (s P:Nat):(s % 4294967296)*P+(s / 4294967296)*(4294967296*P)=s*P:=by
 have h:=Nat.div_add_mod s 4294967296
 have h2:(s % 4294967296)*P+(s / 4294967296)*(4294967296*P)=(4294967296*(s / 4294967296)+s % 4294967296)*P:=by
  rw [Nat.add_mul,Nat.mul_comm 4294967296 (s / 4294967296),Nat.mul_assoc];omega
 rw [h2,h]
theorem dv {l:List Nat} {i:Nat} (h:i<l.length) (x:Nat):nv ((l.set i x).take (i+1))=nv (l.take i)+x*4294967296^i:=by
 rw [ar,List.take_set_of_le (Nat.le_refl _)];simp [List.getD_eq_getElem?_getD,h]
theorem dX {l:List Nat} {i:Nat} (h:i<l.length) (x:Nat):(l.set i x).getD i 0=x:=by simp [List.getD_eq_getElem?_getD,h]
theorem cQ {l:List Nat} {i j:Nat} (h:i≠j) (x:Nat):(l.set i x).getD j 0=l.getD j 0:=by simp [List.getD_eq_getElem?_getD,List.getElem?_set_ne h]
theorem mW {O c X Y x y P s:Nat} (h:O+c*P=X+Y) (hs:s=c+x+y):(O+(s % 4294967296)*P)+(s / 4294967296)*(4294967296*P)=(X+x*P)+(Y+y*P):=by
 have h1:=eY s P;have h2:s*P=c*P+x*P+y*P:=by rw [hs,Nat.add_mul,Nat.add_mul]
 omega
theorem tH {O b X Y x y P o b':Nat} (h:O+Y=X+b*P) (hs:o+y+b=x+b'*4294967296):(O+o*P)+(Y+y*P)=(X+x*P)+b'*(4294967296*P):=by
 have h2:(o+y+b)*P=(x+b'*4294967296)*P:=by rw [hs]
 rw [Nat.add_mul,Nat.add_mul,Nat.add_mul,Nat.mul_assoc] at h2;omega
theorem oT {l:List Nat} (h:nv l=0):∀ i,l.getD i 0=0:=by
 induction l with
 | nil=>simp
 | cons x l ih =>
  rw [b_] at h;intro i;cases i with
  | zero=>rw [List.getD_cons_zero];omega
  | succ i=>rw [List.getD_cons_succ];exact ih (by omega) i
theorem dt (l:List Nat) (k i:Nat):(l.drop k).getD i 0=l.getD (k+i) 0:=by simp [List.getD_eq_getElem?_getD]
theorem cd {l:List Nat} {k i:Nat} (h:i<k):(l.take k).getD i 0=l.getD i 0:=by simp [List.getD_eq_getElem?_getD,List.getElem?_take_of_lt h]
theorem kT {l:List Nat} {k:Nat} (h:nv l<4294967296^k):(∀ j,k<=j->l.getD j 0=0)/\nv (l.take k)=nv l:=by
 by_cases hk:k<=l.length
 ·have h1:=e_ l k hk
  have h2:nv (l.drop k)=0:=by
   rcases Nat.eq_zero_or_pos (nv (l.drop k)) with h3 | h3
   ·exact h3
   ·have:4294967296^k*1<=4294967296^k*nv (l.drop k):=Nat.mul_le_mul_left _ h3
    omega
  refine ⟨fun j hj=>?_,by rw [h1,h2];omega⟩;have:=oT h2 (j - k)
  rwa [dt,Nat.add_sub_cancel' hj] at this
 ·refine ⟨fun j hj=>?_,ay _ _ (by omega)⟩;simp [List.getD_eq_getElem?_getD,show l.length<=j by omega]
theorem AA {N c M x Y P y w s:Nat} (h:N+c*P=M+x*Y) (hs:s=c+x*y+w):∀ N',N'+w*P=N+(s % 4294967296)*P->N'+(s / 4294967296)*(4294967296*P)=M+x*(Y+y*P):=by
 intro N' hN;have h1:=eY s P;have h2:s*P=c*P+x*(y*P)+w*P:=by rw [hs,Nat.add_mul,Nat.add_mul,Nat.mul_assoc]
 rw [Nat.mul_add];omega
theorem ym {c x y w:Nat} (hc:c<4294967296) (hx:x<4294967296) (hy:y<4294967296) (hw:w<4294967296):c+x*y+w<18446744073709551616:=by
 have:x*y<=4294967295*4294967295:=Nat.mul_le_mul (by omega) (by omega)
 omega
theorem zU {a b q r:Nat} (h:a=b*q+r) (hr:r<b):a / b=q/\a % b=r:=by
 subst h;constructor
 ·rw [Nat.mul_add_div (by omega),Nat.div_eq_of_lt hr,Nat.add_zero]
 ·rw [Nat.mul_add_mod,Nat.mod_eq_of_lt hr]
theorem aT {l:List Nat} {i:Nat} (h:i<l.length):nv (l.drop i)=l.getD i 0+4294967296*nv (l.drop (i+1)):=by
 rw [List.drop_eq_getElem_cons h,b_];simp [List.getD_eq_getElem?_getD,h]
theorem cV {l:List Nat} {i:Nat} (h:l.length<=i):nv (l.drop i)=0:=by rw [List.drop_eq_nil_of_le h];rfl
theorem vF {X Q b rest x cur:Nat} (h:X=b*Q+rest) (hr:rest<b) (hb:b<4294967296) (hx:x<4294967296) (hc:cur=rest*4294967296+x) :
  x+4294967296*X=b*(cur / b+4294967296*Q)+cur % b/\cur % b<b/\cur / b<4294967296/\cur<18446744073709551616:=by
 have h1:=Nat.div_add_mod cur b
 have hcur:cur<b*4294967296:=by
  have:(rest+1)*4294967296<=b*4294967296:=Nat.mul_le_mul_right _ hr
  omega
 have hbb:b*4294967296<=4294967296*4294967296:=Nat.mul_le_mul_right _ (by omega);refine ⟨?_,Nat.mod_lt _ (by omega),Nat.div_lt_of_lt_mul hcur,by omega⟩;rw [Nat.mul_add,show b*(4294967296*Q)=4294967296*(b*Q) by rw [Nat.mul_left_comm]];subst h;omega
theorem Dc {N X x n P w y:Nat} (hn:n<32) (hN:N=X*2^n) (hy:y=x*2^n) (hw:w<2^n):∀ N',N'+w*P=N+(w ||| (y % 4294967296))*P+(y / 4294967296)*(4294967296*P)->(w ||| (y % 4294967296))=w+y % 4294967296/\N'=(X+x*P)*2^n:=by
 have hor:(w ||| (y % 4294967296))=w+y % 4294967296:=by
  have e:y % 4294967296=2^n*(x % 2^(32 - n)):=by
   rw [hy,show (4294967296:Nat)=2^n*2^(32 - n) by rw [<-Nat.pow_add,show n+(32 - n)=32 by omega],Nat.mul_comm x,Nat.mul_mod_mul_left]
  rw [e,Nat.or_comm,<-Nat.two_pow_add_eq_or_of_lt hw];omega
 intro N' h;refine ⟨hor,?_⟩;rw [hor,Nat.add_mul] at h;have h1:=eY y P;have h2:(X+x*P)*2^n=N+y*P:=by rw [hN,hy,Nat.add_mul,Nat.mul_assoc,Nat.mul_assoc,Nat.mul_comm P]
 omega
theorem BZ {x n y:Nat} (hn:n<32) (hx:x<4294967296) (hy:y=x*2^n):y<18446744073709551616/\y / 4294967296<2^n:=by
 have h2:2^n<=2^31:=Nat.pow_le_pow_right (by omega) (by omega);have h3:y<4294967296*2^n:=by rw [hy];exact (Nat.mul_lt_mul_right (Nat.pow_pos (by omega))).2 hx
 exact ⟨by omega,Nat.div_lt_of_lt_mul h3⟩
theorem xG {a:List Nat} (n i:Nat) (hn:n<32) (hi:i<a.length) (hw:Wd a):((a.getD i 0 ||| a.getD (i+1) 0*4294967296) / 2^n) % 4294967296=(nv a / 2^n / 4294967296^i) % 4294967296:=by
 have hor:(a.getD i 0 ||| a.getD (i+1) 0*4294967296)=a.getD i 0+4294967296*a.getD (i+1) 0:=by
  rw [Nat.or_comm,Nat.mul_comm,show (4294967296:Nat)=2^32 by rfl,<-Nat.two_pow_add_eq_or_of_lt (by have:=hw.getD i;omega)];omega
 have e1:nv a / 2^n / 4294967296^i=nv (a.drop i) / 2^n:=by
  rw [Nat.div_div_eq_div_mul,Nat.mul_comm,<-Nat.div_div_eq_div_mul,e_ a i (Nat.le_of_lt hi),Nat.add_mul_div_left _ _ (Nat.pow_pos (by omega))];have:=di (hw.take i);rw [List.length_take,Nat.min_eq_left (Nat.le_of_lt hi)] at this;rw [Nat.div_eq_of_lt this,Nat.zero_add]
 rw [e1,hor,aT hi]
 obtain ⟨z,hz⟩:∃ z,nv (a.drop (i+1))=a.getD (i+1) 0+4294967296*z:=by
  by_cases h:i+1<a.length
  ·exact ⟨_,aT h⟩
  ·refine ⟨0,?_⟩;rw [cV (by omega)];simp [List.getD_eq_getElem?_getD,show a.length<=i+1 by omega]
 rw [hz,Nat.mul_add,<-Nat.add_assoc]
 have e2:4294967296*(4294967296*z)=2^n*(4294967296*(2^(32 - n)*z)):=by
  rw [<-Nat.mul_assoc,<-Nat.mul_assoc,Nat.mul_comm (2^n) 4294967296,<-Nat.mul_assoc,Nat.mul_assoc 4294967296 (2^n),<-Nat.pow_add,show n+(32 - n)=32 by omega]
 rw [e2,Nat.add_mul_div_left _ _ (Nat.pow_pos (by omega)),Nat.add_mul_mod_self_left]
theorem lE (x i:Nat):x % 4294967296^(i+1)=x % 4294967296^i+(x / 4294967296^i % 4294967296)*4294967296^i:=by
 rw [Nat.pow_succ,Nat.mod_mul,Nat.mul_comm (4294967296^i)]
theorem sB {V W top head P:Nat} (hV:top*P<=V) (hW:W<(head+1)*P) (ht:0<top):W / V<=head / top:=by
 rw [Nat.le_div_iff_mul_le ht];rcases Nat.eq_zero_or_pos V with rfl | hpos
 ·simp
 have h1:W / V*(top*P)<=W / V*V:=Nat.mul_le_mul_left _ hV;have h2:W / V*V<=W:=Nat.div_mul_le_self W V;have h3:W / V*top*P<(head+1)*P:=by rw [Nat.mul_assoc];omega
 have h4:=Nat.lt_of_mul_lt_mul_right h3;omega
theorem xS {V W V2 head3 guess P:Nat} (hV:V2*P<=V) (hW:W<(head3+1)*P) (hg:head3<guess*V2):W / V<guess:=by
 rcases Nat.eq_zero_or_pos V with rfl | hpos
 ·simp;rcases Nat.eq_zero_or_pos guess with rfl | h
  ·simp at hg
  ·exact h
 rw [Nat.div_lt_iff_lt_mul hpos];have h1:guess*(V2*P)<=guess*V:=Nat.mul_le_mul_left _ hV;have h2:(head3+1)*P<=guess*V2*P:=Nat.mul_le_mul_right _ hg;rw [Nat.mul_assoc] at h2;omega
theorem Ag {V W V2 head3 guess P:Nat} (hV:V<(V2+1)*P) (hW:head3*P<=W) (hg:guess*V2<=head3) (hb:guess*P<=V) (hpos:0<V):guess<=W / V+1:=by
 have h1:guess*V<=guess*((V2+1)*P):=Nat.mul_le_mul_left _ (Nat.le_of_lt hV);have h2:guess*V2*P<=head3*P:=Nat.mul_le_mul_right _ hg;have h3:guess*((V2+1)*P)=guess*V2*P+guess*P:=by rw [Nat.add_mul,Nat.one_mul,Nat.mul_add,Nat.mul_assoc]
 have h4:guess*V<=W+V:=by omega
 have h5:guess<=(W+V) / V:=(Nat.le_div_iff_mul_le hpos).2 h4
 rwa [Nat.add_div_right _ hpos] at h5
theorem zZ {head top next u2 guess rest:Nat} (h:guess*top+rest=head) (hg:4294967296<=guess\/rest*4294967296+u2<guess*next):head*4294967296+u2<guess*(top*4294967296+next)\/4294967296<=guess:=by
 rcases hg with hg | hg
 ·exact .inr hg
 ·refine .inl ?_;subst h;rw [Nat.mul_add,Nat.add_mul,<-Nat.mul_assoc,Nat.add_assoc];exact Nat.add_lt_add_left hg _
theorem sr {head top next u2 guess rest:Nat} (h:guess*top+rest=head) (hg:guess*next<=rest*4294967296+u2):guess*(top*4294967296+next)<=head*4294967296+u2:=by
 subst h;rw [Nat.mul_add,Nat.add_mul,<-Nat.mul_assoc];omega
theorem xJ {head top next u2 guess rest:Nat} (h:guess*top+rest=head) (hr:4294967296<=rest) (hh:head<(top+1)*4294967296) (hn:next<4294967296) (_ht:0<top):guess<4294967296/\guess*(top*4294967296+next)<=head*4294967296+u2:=by
 have hg:guess<4294967296:=by
  have h1:guess*top<4294967296*top:=by rw [Nat.add_mul] at hh;omega
  exact Nat.lt_of_mul_lt_mul_right h1
 refine ⟨hg,sr h ?_⟩;have h2:guess*next<=4294967296*next:=Nat.mul_le_mul_right _ (Nat.le_of_lt hg);omega
theorem ze {O X Y x y n P b c s o b':Nat} (h:O+n*Y=X+b*P+c*P) (hs:s=c+n*y) (ho:o+s % 4294967296+b=x+b'*4294967296) :
  (O+o*P)+n*(Y+y*P)=(X+x*P)+b'*(4294967296*P)+(s / 4294967296)*(4294967296*P):=by
 have h1:=eY s P;have h2:s*P=c*P+n*(y*P):=by rw [hs,Nat.add_mul,Nat.mul_assoc]
 have h3:(o+s % 4294967296+b)*P=(x+b'*4294967296)*P:=by rw [ho]
 rw [Nat.add_mul,Nat.add_mul,Nat.add_mul,Nat.mul_assoc] at h3;rw [Nat.mul_add];omega
theorem xF {V W guess U b M:Nat} (hpos:0<V) (hU:U+guess*V=W+b*M) (hUM:U<M) (_hVM:V<=M) (hb:b<=1) (h1:W / V<=guess) (h2:guess<=W / V+1) :
  (b=0->guess=W / V/\U=W % V)/\(b=1->guess=W / V+1/\U+V=W % V+M):=by
 have hd:=Nat.div_add_mod W V;have hm:=Nat.mod_lt W hpos;have e1:(W / V)*V=V*(W / V):=Nat.mul_comm ..;have e2:(W / V+1)*V=V*(W / V)+V:=by rw [Nat.add_mul,Nat.one_mul,e1]
 constructor
 ·intro h0;subst h0
  have hg:guess=W / V:=by
   rcases Nat.lt_or_ge (W / V) guess with h | h
   ·have:guess=W / V+1:=by omega
    rw [this,e2] at hU;omega
   ·omega
  refine ⟨hg,?_⟩;rw [hg,e1] at hU;omega
 ·intro h0;subst h0
  have hg:guess=W / V+1:=by
   rcases Nat.lt_or_ge (W / V) guess with h | h
   ·omega
   ·have:guess=W / V:=by omega
    rw [this,e1] at hU;omega
  refine ⟨hg,?_⟩;rw [hg,e2] at hU;omega
theorem qu {U V R Q u0:Nat} (h:U=V*Q+R) (x:Nat) (hx:x=u0+4294967296*R):u0+4294967296*U=V*(x / V+4294967296*Q)+x % V:=by
 have hd:=Nat.div_add_mod x V;rw [Nat.mul_add,show V*(4294967296*Q)=4294967296*(V*Q) by rw [Nat.mul_left_comm]];subst h;omega
theorem qL {a b q r n:Nat} (h:a*2^n=b*2^n*q+r) (hr:r<b*2^n):a / b=q/\r / 2^n=a % b:=by
 have hp:0<2^n:=Nat.pow_pos (by omega)
 obtain ⟨r',rfl⟩:∃ r',r=2^n*r':=by
  refine ⟨a - b*q,?_⟩;rw [Nat.mul_sub,Nat.mul_comm (2^n) a,h,show 2^n*(b*q)=b*2^n*q by rw [<-Nat.mul_assoc,Nat.mul_comm (2^n) b]];omega
 have h1:a=b*q+r':=by
  have:2^n*a=2^n*(b*q+r'):=by rw [Nat.mul_comm,h,Nat.mul_add,<-Nat.mul_assoc,Nat.mul_comm (2^n) b]
  exact Nat.eq_of_mul_eq_mul_left hp this
 have h2:r'<b:=by rw [Nat.mul_comm b] at hr;exact Nat.lt_of_mul_lt_mul_left hr
 obtain ⟨h3,h4⟩:=zU h1 h2;exact ⟨h3,by rw [Nat.mul_div_cancel_left _ hp,h4]⟩
theorem qP {l:List Nat} (hw:Wd l) {m:Nat} (hm:l.length=m+2):nv l=nv (l.take m)+4294967296^m*(l.getD m 0+4294967296*l.getD (m+1) 0)/\(l.getD m 0+4294967296*l.getD (m+1) 0)*4294967296^m<=nv l/\nv l<(l.getD m 0+4294967296*l.getD (m+1) 0+1)*4294967296^m:=by
 have h1:=e_ l m (by omega);rw [aT (by omega),aT (by omega),cV (by omega)] at h1;simp only [Nat.mul_zero,Nat.add_zero] at h1;have h2:=di (hw.take m);rw [List.length_take,Nat.min_eq_left (by omega)] at h2;refine ⟨h1,by rw [h1,Nat.mul_comm];omega,?_⟩;rw [Nat.add_mul,Nat.one_mul,Nat.mul_comm _ (4294967296^m)];omega
theorem fi {l:List Nat} (hw:Wd l) {m:Nat} (hm:l.length=m+1):nv l=nv (l.take m)+4294967296^m*l.getD m 0/\l.getD m 0*4294967296^m<=nv l/\nv l<(l.getD m 0+1)*4294967296^m:=by
 have h1:=e_ l m (by omega);rw [aT (by omega),cV (by omega)] at h1;simp only [Nat.mul_zero,Nat.add_zero] at h1;have h2:=di (hw.take m);rw [List.length_take,Nat.min_eq_left (by omega)] at h2;refine ⟨h1,by rw [h1,Nat.mul_comm];omega,?_⟩;rw [Nat.add_mul,Nat.one_mul,Nat.mul_comm _ (4294967296^m)];omega
structure Rw where
 neg:Bool
 num:List Nat
 den:List Nat
deriving DecidableEq
instance:Inhabited Rw:=⟨⟨false,[],[]⟩⟩
def Rw.Ok (r:Rw):Prop:=Wd r.num/\Wd r.den
def bE (a:List Nat):Bool:=decide (0<a.length)&&(a.getD (a.length - 1) 0 != 0)
theorem gN {a:List Nat}:bE a=true ↔ a≠[]/\Pl a:=by
 unfold bE Pl;cases a with
 | nil=>simp
 | cons x l =>
  simp only [List.length_cons,Nat.zero_lt_succ,decide_true,Bool.true_and,ne_eq,reduceCtorEq,not_false_eq_true,true_and,List.getD_eq_getElem?_getD];constructor
  ·intro h _;rw [List.getLast_eq_getElem];simpa using h
  ·intro h;have:=h (by simp);rw [List.getLast_eq_getElem] at this;simpa using this
def bl (r:Rw):Bool:=if r.num=[]/\r.den=[] then !r.neg else bE r.num&&bE r.den&&(Nat.gcd (nv r.num) (nv r.den) == 1)
def sg (neg:Bool) (n:Nat):Int:=if neg=true then -(n:Int) else n
theorem rR (neg:Bool) (n:Nat):(sg neg n).natAbs=n:=by unfold sg;split <;> simp
theorem nV (neg:Bool):sg neg 0=0:=by unfold sg;split <;> simp
def ah (r:Rw):Bool × List Nat × List Nat:=if bl r=true/\r.num≠[] then (r.neg,r.num,r.den) else (false,[],[1])
def al (r:Rw):Rat:=mkRat (sg (ah r).1 (nv (ah r).2.1)) (nv (ah r).2.2)
theorem oR {a:List Nat} (hw:Wd a) (h:bE a=true):nv a≠0:=by
 obtain ⟨h1,h2⟩:=gN.1 h;intro h3;have:=w_ hw h2;rw [h3,bN] at this;exact h1 this.symm
theorem sV {n:Nat} (h:n≠0):bE (nw n)=true:=gN.2 ⟨fun e=>h (cG.1 e),AH n⟩
theorem az {r:Rw} (h:r.Ok):Wd (ah r).2.1/\Wd (ah r).2.2/\nv (ah r).2.2≠0/\Pl (ah r).2.1/\Pl (ah r).2.2:=by
 unfold ah;split
 ·rename_i hv;obtain ⟨hv,hn⟩:=hv;unfold bl at hv;rw [if_neg (fun e=>hn e.1)] at hv;simp only [Bool.and_eq_true] at hv;exact ⟨h.1,h.2,oR h.2 hv.1.2,(gN.1 hv.1.1).2,(gN.1 hv.1.2).2⟩
 ·exact ⟨Wd.nil,Wd.cons (by omega) Wd.nil,by simp [nv],fun h=>absurd rfl h,fun _=>by simp⟩
def ai (q:Rat):Rw:=if q.num=0 then ⟨false,[],[]⟩ else ⟨decide (q.num<0),nw q.num.natAbs,nw q.den⟩
def fZ (neg:Bool) (n d:Nat):Rw:=if n=0 then ⟨false,[],[]⟩ else ⟨neg,nw (n / Nat.gcd n d),nw (d / Nat.gcd n d)⟩
theorem bJ (neg:Bool) (n d:Nat) (hd:d≠0):fZ neg n d=ai (mkRat (sg neg n) d):=by
 unfold fZ ai;have e1:(mkRat (sg neg n) d).num=sg neg n / (d.gcd n:Nat):=by rw [Rat.num_mkRat,if_neg hd,rR]
 have e2:(mkRat (sg neg n) d).den=d / Nat.gcd n d:=by rw [Rat.den_mkRat,if_neg hd,rR,Nat.gcd_comm]
 have hg:0<Nat.gcd n d:=Nat.gcd_pos_of_pos_right _ (by omega);have hdv:Nat.gcd n d ∣ n:=Nat.gcd_dvd_left ..
 have e3:sg neg n / (d.gcd n:Nat)=sg neg (n / Nat.gcd n d):=by
  rw [Nat.gcd_comm];unfold sg;split
  ·rw [Int.neg_ediv_of_dvd (Int.natCast_dvd_natCast.2 hdv),<-Int.natCast_ediv]
  ·rw [<-Int.natCast_ediv]
 rw [e1,e2,e3];by_cases h0:n=0
 ·subst h0;simp [nV]
 ·have hne:n / Nat.gcd n d≠0:=by
   have:=Nat.div_pos (Nat.le_of_dvd (by omega) hdv) hg;omega
  have h1:sg neg (n / Nat.gcd n d)≠0:=by unfold sg;split <;> omega
  rw [if_neg h0,if_neg h1,rR];congr 1;obtain ⟨m,hm⟩:∃ m,m=n / Nat.gcd n d:=⟨_,rfl⟩;rw [<-hm] at hne⊢;unfold sg;cases neg with
  | true=>simp;omega
  | false=>simp
theorem dF (q:Rat):(ai q).Ok:=by
 unfold ai;split
 ·exact ⟨Wd.nil,Wd.nil⟩
 ·exact ⟨dK _,dK _⟩
theorem gx (q:Rat):bl (ai q)=true:=by
 unfold ai;split
 ·rfl
 ·rename_i h;unfold bl;rw [if_neg (fun e=>by have:=cG.1 e.1;omega)];rw [sV (by omega),sV q.den_nz,aq,aq];have:=q.reduced;unfold Nat.Coprime at this;simp [this]
theorem ap (q:Rat):al (ai q)=q:=by
 unfold al ah;rw [gx];unfold ai;split
 ·rename_i h;simp only [ne_eq,not_true_eq_false,and_false,if_false];rw [cj,nV,Rat.zero_mkRat];exact (Rat.num_eq_zero.1 h).symm
 ·rename_i h;rw [if_pos ⟨rfl,fun e=>by have:=cG.1 e;omega⟩];simp only [aq]
  have e:sg (decide (q.num<0)) q.num.natAbs=q.num:=by
   unfold sg;by_cases h2:q.num<0
   ·simp [h2];omega
   ·simp [h2];omega
  rw [e,Rat.mkRat_self]
theorem Ef (s:Bool) (a b:Nat):sg s (a+b)=sg s a+sg s b:=by unfold sg;split <;> omega
theorem Eg (s t:Bool) (a b:Nat):sg (s != t) (a*b)=sg s a*sg t b:=by
 unfold sg;cases s <;> cases t <;> simp [Int.neg_mul,Int.mul_neg]
theorem Eh (s:Bool) (a:Nat):sg (!s) a=- sg s a:=by unfold sg;cases s <;> simp
theorem Ei {s t:Bool} (h:s≠t) {a b:Nat} (hab:b<=a):sg s (a - b)=sg s a+sg t b:=by
 unfold sg;cases s <;> cases t <;> simp at h⊢ <;> omega
theorem CV {s t:Bool} (h:s≠t) {a b:Nat} (hab:a<=b):sg t (b - a)=sg s a+sg t b:=by
 unfold sg;cases s <;> cases t <;> simp at h⊢ <;> omega
theorem go (s:Bool) (a b:Nat):sg s (a*b)=sg s a*(b:Int):=by unfold sg;split <;> simp [Int.neg_mul]
def fI (x:Nat):Value:=.int .u32 (x:Int)
def WdsAt (w:World) (v:Value) (xs:List Nat):Prop :=
 ∃ (a:Option Addr) (c:Nat),v=.slice a xs.length c/\(xs.length<=c/\(a=none->c=0))/\xs.length<=1099511627776/\Wd xs /\
  ∀ i (_:i<xs.length),∃ b o,a=some ⟨b,o,none⟩/\w.cell? ⟨b,o+i,none⟩=some (.int .u32 ((xs.getD i 0:Nat):Int))
theorem WdsAt.kept {w w':World} {v:Value} {xs:List Nat} (h:WdsAt w v xs) (hk:ag w w'):WdsAt w' v xs:=by
 obtain ⟨a,c,h1,h2,h3,h4,h5⟩:=h;exact ⟨a,c,h1,h2,h3,h4,fun i hi=>let ⟨b,o,h6,h7⟩:=h5 i hi;⟨b,o,h6,hk.cell h7⟩⟩
theorem WdsAt.wd {w:World} {v:Value} {xs:List Nat} (h:WdsAt w v xs):Wd xs:=by obtain ⟨_,_,_,_,_,h,_⟩:=h;exact h
theorem WdsAt.len {w:World} {v:Value} {xs:List Nat} (h:WdsAt w v xs):xs.length<=1099511627776:=by obtain ⟨_,_,_,_,h,_⟩:=h;exact h
theorem WdsAt.shape {w:World} {v:Value} {xs:List Nat} (h:WdsAt w v xs):∃ a c,v=.slice a xs.length c:=by obtain ⟨a,c,h,_⟩:=h;exact ⟨a,c,h⟩
theorem WdsAt.nil (w:World):WdsAt w (.slice none 0 0) []:=⟨none,0,rfl,⟨by simp,fun _=>rfl⟩,by simp,Wd.nil,fun i h=>by simp at h⟩
theorem WdsAt.get {w:World} {a:Option Addr} {n c:Nat} {xs:List Nat} (h:WdsAt w (.slice a n c) xs) (i:Nat) (hi:i<xs.length):∃ b o,a=some ⟨b,o,none⟩/\w.cell? ⟨b,o+i,none⟩=some (.int .u32 ((xs.getD i 0:Nat):Int)):=by
 obtain ⟨a',c',h1,_,_,_,h5⟩:=h;injection h1 with h1
 subst h1;exact h5 i hi
theorem WdsAt.take {w:World} {a:Option Addr} {n c:Nat} {xs:List Nat} (h:WdsAt w (.slice a n c) xs) (k:Nat) (hk:k<=xs.length):WdsAt w (.slice a k c) (xs.take k):=by
 obtain ⟨a',c',h1,h2,h3,h4,h5⟩:=h;injection h1 with h1 h6 h7
 subst h1 h7;have hl:(xs.take k).length=k:=by rw [List.length_take];omega
 refine ⟨a,c,by rw [hl],⟨by omega,h2.2⟩,by omega,h4.take k,fun i hi=>?_⟩;obtain ⟨b,o,h8,h9⟩:=h5 i (by omega);exact ⟨b,o,h8,by rw [cd (by omega)];exact h9⟩
theorem WdsAt.drop {w:World} {b o n c:Nat} {xs:List Nat} (h:WdsAt w (.slice (some ⟨b,o,none⟩) n c) xs) (k:Nat) (hk:k<=xs.length):WdsAt w (.slice (some ⟨b,o+k,none⟩) (n - k) (c - k)) (xs.drop k):=by
 obtain ⟨a',c',h1,h2,h3,h4,h5⟩:=h;injection h1 with h1 h6 h7
 subst h1 h7;have hl:(xs.drop k).length=n - k:=by rw [List.length_drop];omega
 refine ⟨_,c - k,by rw [hl],⟨by omega,fun h=>by cases h⟩,by omega,h4.drop k,fun i hi=>⟨b,o+k,rfl,?_⟩⟩;obtain ⟨b2,o2,h8,h9⟩:=h5 (k+i) (by omega);cases h8;rw [dt,Nat.add_assoc];exact h9
def bd (w:World) (B:Nat) (v:Value) (xs:List Nat):Prop :=
 w.ownsRow B 70 1 v xs.length (xs.map fI)/\xs.length<=1099511627776/\Wd xs
theorem bd.at {w:World} {B:Nat} {v:Value} {xs:List Nat} (h:bd w B v xs):WdsAt w v xs:=by
 obtain ⟨⟨h1,h2⟩,h3,h3'⟩:=h;rcases h2 with ⟨rfl,h4⟩ | ⟨g,cap,cur,rfl,h5,h6,h7,h8,h9,h10⟩
 ·have:xs=[]:=List.eq_nil_of_length_eq_zero h4
  subst this;exact WdsAt.nil w
 ·refine ⟨_,cap,rfl,⟨h7,fun h=>by cases h⟩,h3,h3',fun i hi=>⟨g,0,rfl,?_⟩⟩;have e1:(cur.toList.take (xs.length*1))[i]?=(xs.map fI)[i]?:=by rw [h10]
  rw [List.getElem?_take_of_lt (by omega)] at e1;simp only [World.cell?,h6,Nat.zero_add];simpa [hi,fI,List.getD_eq_getElem?_getD] using e1
theorem bd.kept {w w':World} {B:Nat} {v:Value} {xs:List Nat} (h:bd w B v xs) (hb:ag w w'):bd w' B v xs:=⟨fb h.1 hb,h.2⟩
theorem bd.nil (w:World) (B:Nat):bd w B (.slice none 0 0) []:=⟨World.ownsRow_nil _ _ _ _,by simp,Wd.nil⟩
theorem bd.mono {w:World} {B B':Nat} {v:Value} {xs:List Nat} (h:bd w B v xs) (hb:B'<=B):bd w B' v xs:=⟨lK h.1 hb,h.2⟩
theorem bX (w:World) (B:Nat) (hB:B<=w.heap.size):bd (w.alloc (.cells #[] 70)) B (.slice (some ⟨w.heap.size,0,none⟩) 0 0) [] :=
 ⟨⟨by simp,.inr ⟨w.heap.size,0,#[],rfl,hB,heap_alloc_new w _,Nat.le_refl _,by unfold maxLen;omega,by simp,by simp⟩⟩,by simp,Wd.nil⟩
theorem cE:(Tryz.prog.info? 70).map (fun i=>(i.zero,i.size,i.bytes))=some (some (.int .u32 0),1,4):=by kernel_rfl
theorem qX {ops:Array Oper} {rest:List Oper} {o:Oper} {a:Act} {Q:Exit->Act->World->Prop} {w:World} (hgd:o.guard=none) (s x:Operand)
  (ho:o.op=.call { callee:=.builtin .append,args:=#[s,x],argTypes:=#[27,27] }) (B:Nat) (v:Value) (xs:List Nat) (hs:a.eval s=v) (hown:bd w B v xs)
  (u:Value) (ys:List Nat) (hx:a.eval x=u) (hu:WdsAt w u ys) (hl:xs.length+ys.length<=1099511627776) (hB:B<=w.heap.size)
  (h:∀ v' w',bd w' B v' (xs++ys)->Below B w w'->wpList Tryz.prog ops Q rest (a.put o.dst v') w'):wpList Tryz.prog ops Q (o :: rest) a w:=by
 obtain ⟨i0,hi0,hz0,hz1,hz2⟩:=info_parts cE;obtain ⟨ad,c,rfl,⟨hc,hcn⟩,hl2,hw,hcell⟩:=hu;cases ad with
 | none =>
  have hy:ys=[]:=by
   cases ys with
   | nil=>rfl
   | cons y ys=>obtain ⟨b,o,h,_⟩:=hcell 0 (by simp);cases h
  subst hy;rw [hcn rfl] at hx;refine wpList_append_own_none hgd s x 27 ho B 70 i0 1 Tryz.underlying27 hi0 v xs.length _ hs hown.1 hx ?_;exact h v w (by simpa using hown) (Below.refl _ _)
 | some ad =>
  refine wpList_append_own _ hgd s x 27 ho B 70 i0 _ 1 4 Tryz.underlying27 hi0 hz0 hz1 hz2 rfl (by decide) v xs.length _ hs hown.1 ad ys.length c (ys.map fI) hx (by simp) ?_ ?_ (by simp [maxLen];omega) (by omega) hB ?_
  ·intro j u hj
   have hj':j<ys.length:=by
    rcases Nat.lt_or_ge j ys.length with h | h
    ·exact h
    ·rw [List.getElem?_eq_none (by simpa using h)] at hj;cases hj
   obtain ⟨b,o,h5,h6⟩:=hcell j hj';cases h5;simp [hj',fI] at hj;subst hj;rw [show ({ block:=b,off:=o }:Addr).add j=⟨b,o+j,none⟩ by unfold Addr.add;split <;> simp_all,h6];simp [List.getD_eq_getElem?_getD,hj']
  ·intro u hu;obtain ⟨y,_,rfl⟩:=List.mem_map.1 hu;rfl
  ·intro v' w' h5 h6 _;exact h v' w' ⟨by simpa using h5,by simp;omega,hown.2.2.app hw⟩ (bf h6 hown.1 hB)
theorem ku {ops:Array Oper} {rest:List Oper} {o:Oper} {a:Act} {Q:Exit->Act->World->Prop} {w:World} (hgd:o.guard=none) (s x:Operand)
  (ho:o.op=.call { callee:=.builtin .append,args:=#[s,x],argTypes:=#[27,27] }) (B:Nat) (v:Value) (xs:List Nat) (hs:a.eval s=v) (hown:bd w B v xs)
  (ad:Addr) (y:Nat) (hx:a.eval x=.slice (some ad) 1 1) (hc:w.cell? ad=some (.int .u32 (y:Int))) (hy:y<4294967296) (hl:xs.length<1099511627776) (hB:B<=w.heap.size)
  (h:∀ v' w',bd w' B v' (xs++[y])->Below B w w'->wpList Tryz.prog ops Q rest (a.put o.dst v') w'):wpList Tryz.prog ops Q (o :: rest) a w:=by
 refine nQ 27 70 _ 4 cE Tryz.underlying27 rfl hgd s x ho B v (xs.map fI) hs (by simpa using hown.1) ad _ hx hc rfl (by simp;omega) (by simp [maxLen];omega) hB ?_;intro v' w' h2 h3 h4;exact h v' w' ⟨by simpa [fI] using h2,by simp;omega,hown.2.2.app (Wd.cons hy Wd.nil)⟩ h4
theorem eH {w:World} {g:Nat} {xs:List Nat} {c:Nat} (h:aj w g 70 (xs.map fI)) (hc:xs.length<=c) (hl:xs.length<=1099511627776) (hw:Wd xs):WdsAt w (.slice (some ⟨g,0,none⟩) xs.length c) xs :=
 ⟨_,c,rfl,⟨hc,fun h=>by cases h⟩,hl,hw,fun i hi=>⟨g,0,rfl,by have:=h.cell (i:=i) (by simpa using hi);simpa [fI,List.getD_eq_getElem?_getD,hi] using this⟩⟩
theorem bi {w:World} {g:Nat} {xs:List Nat} (h:aj w g 70 (xs.map fI)) (i x:Nat):aj (w.setCell ⟨g,i,none⟩ (.int .u32 (x:Int))) g 70 ((xs.set i x).map fI):=by
 have:=h.store i (fI x)
 rwa [<-List.map_set] at this
theorem bj {w:World} {g:Nat} {xs:List Nat} (h:aj w g 70 (xs.map fI)) (i:Nat) (hi:i<xs.length):w.cell? ⟨g,i,none⟩=some (.int .u32 ((xs.getD i 0:Nat):Int)):=by
 have:=h.cell (i:=i) (by simpa using hi);simpa [fI,List.getD_eq_getElem?_getD,hi] using this
theorem dQ (v:Value) (xs:List Nat) (i:Nat) (w:World) (hv:WdsAt w v xs):Calls Tryz.prog 239 #[v,.int .i64 i] w fun e w'=>e=.returned (.int .u64 ((xs.getD i 0:Nat):Int))/\w=w':=by
 obtain ⟨a,c,rfl⟩:=hv.shape;have hl:=hv.len;obtain ⟨n,hn⟩:∃ n,n=xs.length:=⟨_,rfl⟩;rw [<-hn] at hv hl⊢;by_cases h:i<n
 ·obtain ⟨b,o,rfl,hc⟩:=hv.get i (by omega);have hx:=hv.wd.getD i;obtain ⟨x,hx2⟩:∃ x,x=xs.getD i 0:=⟨_,rfl⟩;rw [<-hx2] at hc hx⊢;have hi:(i:Int)<(n:Int):=by omega
  clear hv hn hx2;go_enter Tryz.func239,Tryz.ntmps239;go_wp2;go_ret;exact ⟨rfl,rfl⟩
 ·have e:xs.getD i 0=0:=by simp [List.getD_eq_getElem?_getD,show xs.length<=i by omega]
  rw [e];have hi:¬ (i:Int)<(n:Int):=by omega
  clear hv hn e;go_enter Tryz.func239,Tryz.ntmps239;go_wp2;go_ret;exact ⟨rfl,rfl⟩
theorem cn (v:Value) (xs:List Nat) (i:Nat) (w:World) (hv:WdsAt w v xs):Calls Tryz.prog 226 #[v,.int .i64 i] w fun e w'=>e=.returned (.int .u64 ((xs.getD i 0:Nat):Int))/\w=w':=by
 obtain ⟨a,c,rfl⟩:=hv.shape;have hl:=hv.len;obtain ⟨n,hn⟩:∃ n,n=xs.length:=⟨_,rfl⟩;rw [<-hn] at hv hl⊢;by_cases h:i<n
 ·obtain ⟨b,o,rfl,hc⟩:=hv.get i (by omega);have hx:=hv.wd.getD i;obtain ⟨x,hx2⟩:∃ x,x=xs.getD i 0:=⟨_,rfl⟩;rw [<-hx2] at hc hx⊢;have hi:(i:Int)<(n:Int):=by omega
  clear hv hn hx2;go_enter Tryz.func226,Tryz.ntmps226;go_wp2;go_ret;exact ⟨rfl,rfl⟩
 ·have e:xs.getD i 0=0:=by simp [List.getD_eq_getElem?_getD,show xs.length<=i by omega]
  rw [e];have hi:¬ (i:Int)<(n:Int):=by omega
  clear hv hn e;go_enter Tryz.func226,Tryz.ntmps226;go_wp2;go_ret;exact ⟨rfl,rfl⟩
theorem bh (v:Value) (xs:List Nat) (w:World) (hv:WdsAt w v xs):Calls Tryz.prog 116 #[v] w fun e w'=>(∃ v',e=.returned v'/\WdsAt w' v' (nw (nv xs)))/\ag w w':=by
 obtain ⟨a,c,rfl⟩:=hv.shape;have hl:=hv.len;have HV:=af hv;obtain ⟨n,hn⟩:∃ n,n=xs.length:=⟨_,rfl⟩;have HN:=af hn;rw [<-hn] at hl⊢;have HV2:Hid (WdsAt w (.slice a n c) xs):=af (by rw [hn];exact HV.out);clear hv hn HV;go_enter Tryz.func116,Tryz.ntmps116;go_wp2;go_loopg [3] n (fun kx s3 wr=>∃ k:Nat,s3=.int .i64 k/\k<=n/\k<=kx/\Hid (∀ i,k<=i->xs.getD i 0=0)/\w=wr)
 case atStart=>exact ⟨n,rfl,Nat.le_refl _,Nat.le_refl _,af (fun i hi=>by have:=HN.out;simp [List.getD_eq_getElem?_getD,show xs.length<=i by omega]),rfl⟩
 case round =>
  obtain ⟨k,rfl,hk,hkx,HZ,rfl⟩:=hrel;by_cases hk0:k=0
  ·have e0:nw (nv xs)=[]:=by
    rw [rA HV2.out.wd (Nat.zero_le _) (fun i hi=>HZ.out i (by omega)) (.inl rfl)];rfl
   subst hk0;go_wp2;go_ret;exact ⟨⟨_,rfl,by rw [e0];exact WdsAt.nil _⟩,ag.refl _⟩
  ·obtain ⟨j,rfl⟩:∃ j,k=j+1:=⟨k - 1,by omega⟩;obtain ⟨b,o,rfl,hc⟩:=HV2.out.get j (by have:=HN.out;omega);obtain ⟨x,hx2⟩:∃ x,x=xs.getD j 0:=⟨_,rfl⟩;rw [<-hx2] at hc;have hp:((j+1:Nat):Int) > 0:=by omega
   have hj:((j+1:Nat):Int) - 1=(j:Int):=by omega
   have hjn:(j:Int)<(n:Int):=by omega
   by_cases hx0:x=0
   ·have hb:((x:Int) == 0)=true:=by simp [hx0]
    have HX:=af (hx2.symm.trans hx0);clear hx2 hx0;go_wp2;go_roundg j
    case measure=>omega
    case rel=>exact ⟨j,rfl,by omega,Nat.le_refl _,af (fun i hi=>by
     by_cases h:i=j
     ·rw [h];exact HX.out
     ·exact HZ.out i (by omega)),rfl⟩
   ·have hb:((x:Int) == 0)=false:=by simp;exact hx0
    have hle:j+1<=xs.length:=by have:=HN.out;omega
    have e0:nw (nv xs)=xs.take (j+1):=rA HV2.out.wd hle HZ.out (.inr (by rw [Nat.add_sub_cancel,<-hx2];exact hx0));have HT:=af (HV2.out.take (j+1) hle);have hlt:(xs.take (j+1)).length=j+1:=by rw [List.length_take];omega
    have HLT:=af hlt;obtain ⟨m,hm⟩:∃ m,m=j+1:=⟨_,rfl⟩;rw [<-hm] at HT HLT hp hj hk e0;have E0:=af e0;have hmc:m<=c:=by obtain ⟨_,_,h1,h2,_⟩:=HT.out;injection h1 with _ h3 h4;have:=HLT.out;omega
    have hneq:((m:Int) == 0)=false:=by simp;omega
    rw [<-hm];clear hx2 hx0 e0 hlt hm hle;go_wp2_with (at_builtin;refine qX rfl _ _ rfl w.heap.size _ [] rfl (bX w _ (Nat.le_refl _)) _ _ rfl (HT.out.kept ((ag.refl _).alloc _)) (by have:=HLT.out;simp;omega) (by simp) ?_;intro v7 w7 hown7 hb7;have O7:=af hown7;have HB7:=af hb7;clear hown7 hb7);go_ret;exact ⟨⟨_,rfl,by rw [E0.out];have:=O7.out.at;simpa using this⟩,((ag.refl _).alloc _).app HB7.out⟩
theorem de (v:Value) (xs:List Nat) (w:World) (hv:WdsAt w v xs):Calls Tryz.prog 227 #[v] w fun e w'=>(∃ v',e=.returned v'/\bd w' w.heap.size v' (nw (nv xs)))/\ag w w':=by
 obtain ⟨a,c,rfl⟩:=hv.shape;have hl:=hv.len;have HV:=af hv;obtain ⟨n,hn⟩:∃ n,n=xs.length:=⟨_,rfl⟩;have HN:=af hn;rw [<-hn] at hl⊢;have HV2:Hid (WdsAt w (.slice a n c) xs):=af (by rw [hn];exact HV.out);clear hv hn HV;go_enter Tryz.func227,Tryz.ntmps227;go_wp2;go_loopg [3] n (fun kx s3 wr=>∃ k:Nat,s3=.int .i64 k/\k<=n/\k<=kx/\Hid (∀ i,k<=i->xs.getD i 0=0)/\w=wr)
 case atStart=>exact ⟨n,rfl,Nat.le_refl _,Nat.le_refl _,af (fun i hi=>by have:=HN.out;simp [List.getD_eq_getElem?_getD,show xs.length<=i by omega]),rfl⟩
 case round =>
  obtain ⟨k,rfl,hk,hkx,HZ,rfl⟩:=hrel;have hle:k<=xs.length:=by have:=HN.out;omega
  have HT:=af (HV2.out.take k hle);have hlt:(xs.take k).length=k:=by rw [List.length_take];omega
  have HLT:=af hlt;have hkc:k<=c:=by obtain ⟨_,_,h1,h2,_⟩:=HT.out;injection h1 with _ h3 h4;omega
  clear hlt;by_cases hex:k=0\/xs.getD (k - 1) 0≠0
  ·have E0:=af (rA HV2.out.wd hle HZ.out hex);have HFIN:Hid (∀ (g cc:Nat),True):=af fun _ _=>trivial
   clear HFIN;by_cases hk0:k=0
   ·have hp:¬ (k:Int) > 0:=by omega
    have hcn:a=none->c=0:=by obtain ⟨_,_,h1,h2,_⟩:=HV2.out;injection h1 with h1 _ h3;subst h1 h3;exact h2.2
    subst hk0;clear hex;cases a with
    | none =>
     have:=hcn rfl;subst this;go_wp2;go_ret;exact ⟨⟨_,rfl,by rw [E0.out];exact bX w _ (Nat.le_refl _)⟩,(ag.refl _).alloc _⟩
    | some a =>
     clear hcn;go_wp2;go_ret;exact ⟨⟨_,rfl,by rw [E0.out];exact bX w _ (Nat.le_refl _)⟩,(ag.refl _).alloc _⟩
   ·obtain ⟨b,o,rfl,hc⟩:=HV2.out.get (k - 1) (by omega);have hx0:=hex.resolve_left hk0;obtain ⟨x,hx2⟩:∃ x,x=xs.getD (k - 1) 0:=⟨_,rfl⟩;rw [<-hx2] at hc hx0;obtain ⟨j,hj2⟩:∃ j,j=k - 1:=⟨_,rfl⟩;rw [<-hj2] at hc;have hp:(k:Int) > 0:=by omega
    have hj:(k:Int) - 1=(j:Int):=by omega
    have hjn:(j:Int)<(n:Int):=by omega
    have hjn2:j<n:=by omega
    have hb:((x:Int) == 0)=false:=by simp;exact hx0
    clear hex hx2 hx0 hj2;go_wp2_with (at_builtin;refine qX rfl _ _ rfl w.heap.size _ [] rfl (bX w _ (Nat.le_refl _)) _ _ rfl (HT.out.kept ((ag.refl _).alloc _)) (by have:=HLT.out;simp;omega) (by simp) ?_;intro v7 w7 hown7 hb7;have O7:=af hown7;have HB7:=af hb7;clear hown7 hb7);go_ret;exact ⟨⟨_,rfl,by rw [E0.out];have:=O7.out;simpa using this⟩,((ag.refl _).alloc _).app HB7.out⟩
  ·have hk0:k≠0:=fun h=>hex (.inl h)
   have hx0:xs.getD (k - 1) 0=0:=Classical.byContradiction fun h=>hex (.inr h)
   obtain ⟨b,o,rfl,hc⟩:=HV2.out.get (k - 1) (by omega);rw [hx0] at hc;obtain ⟨j,hj2⟩:∃ j,j=k - 1:=⟨_,rfl⟩;rw [<-hj2] at hc hx0;have hp:(k:Int) > 0:=by omega
   have hj:(k:Int) - 1=(j:Int):=by omega
   have hjn:(j:Int)<(n:Int):=by omega
   have hjn2:j<n:=by omega
   have hjk:j+1=k:=by omega
   have HX:=af hx0;clear hex hx0 hj2;go_wp2;go_roundg j
   case measure=>omega
   case rel=>exact ⟨j,by go_num,by omega,Nat.le_refl _,af (fun i hi=>by
    by_cases h:i=j
    ·rw [h];exact HX.out
    ·exact HZ.out i (by omega)),rfl⟩
end Go.Proofs.YtofibjflkebkpaaGreatDoor
