import Derived.Test.YtofibjflkebkpaaGreatDoorEQ3
import Derived.ProofKit
import Derived.OpenShut
import Derived.SizedLaws
import Derived.Lib.SmallJoins
import Derived.Deep.Slices
import Derived.Deep.Fields
import Derived.Deep.Strs
import Derived.Carry
set_option maxRecDepth 100000
set_option maxHeartbeats 16000000
namespace Go.Proofs.YtofibjflkebkpaaGreatDoor
open Go.RowKit
theorem Bg (c:Nat):∀ u∈iJ c,u.oneCell'=true:=fun u hu=>by simp [iJ] at hu;rcases hu with rfl | rfl | rfl <;> rfl
theorem Fg (L:List Nat):∀ u∈L.flatMap iJ,u.oneCell'=true:=fun u hu=>by
 obtain ⟨c,_,h⟩:=List.mem_flatMap.1 hu;exact Bg c u h
theorem tb (b o j:Nat):(⟨b,o,none⟩:Addr).add j=⟨b,o+j,none⟩:=by unfold Addr.add;split <;> simp_all
theorem Cd {ops:Array Oper} {rest:List Oper} {o:Oper} {a:Act} {Q:Exit->Act->World->Prop} {w:World} (ah:o.guard=none) (s x:Operand)
  (ho:o.op=.call { callee:=.builtin .append,args:=#[s,x],argTypes:=#[93,93] }) (B:Nat) (v:Value) (L:List Nat) (hs:a.eval s=v) (ag:ix w B v L)
  (ad:Addr) (n c:Nat) (M:List Nat) (hx:a.eval x=.slice (some ad) n c) (hu:kL w (.slice (some ad) n c) M) (hl:L.length+M.length<=10000) (hB:B<=w.heap.size)
  (h:∀ v' w',ix w' B v' (L++M)->Below B w w'->wpList Tryz.prog ops Q rest (a.put o.dst v') w'):wpList Tryz.prog ops Q (o :: rest) a w:=by
 obtain ⟨i0,ai,aj,al,am⟩:=info_parts yz;obtain ⟨a',c',h1,h2,h3,h4,h5⟩:=hu;cases h1;refine wpList_append_own _ ah s x 93 ho B 99 i0 _ 3 24 Tryz.underlying93 ai aj al am rfl (by decide) v L.length _ hs ag.1 ad M.length c (M.flatMap iJ) hx (tD M) ?_ (Fg M) (by simp [maxLen];omega) (by omega) hB ?_
 ·intro j u hj
  have hj':j<M.length*3:=by
   rw [<-tD];exact (List.getElem?_eq_some_iff.1 hj).1
  obtain ⟨b,o,h6,h7⟩:=h5 (j / 3) (by omega);cases h6;have e:=yr M (j / 3) (by omega) (j % 3) (by omega);rw [show j / 3*3+j % 3=j by omega,hj] at e;have:=h7 (j % 3) u e.symm;rw [tb];rw [show o+j=o+j / 3*3+j % 3 by omega];exact this
 ·intro v' w' h6 h7 _;refine h v' w' ⟨by rw [List.flatMap_append,List.length_append];exact h6,by simp;omega,fun c hc=>?_⟩ (iD h7 ag.1 hB);rcases List.mem_append.1 hc with hc | hc
  ·exact ag.2.2 c hc
  ·exact h4 c hc
theorem AW (w:World) (B:Nat) (hB:B<=w.heap.size):ix (w.alloc (.cells #[] 99)) B (.slice (some ⟨w.heap.size,0,none⟩) 0 0) [] :=
 ⟨⟨by simp,.inr ⟨w.heap.size,0,#[],rfl,hB,heap_alloc_new w _,Nat.le_refl _,by unfold maxLen;omega,by simp,by simp⟩⟩,by simp,by simp⟩
theorem Ai (v:Value) (L:List Nat) (w:World) (hv:kL w v L) :
  Calls Tryz.prog 186 #[v] w fun e w'=>(∃ v',e=.returned v'/\ix w' w.heap.size v' L)/\gO w w':=by
 have HV:=af hv;obtain ⟨sa,c,rfl,⟨_,ah⟩,hl,_⟩:=hv;cases sa with
 | none =>
  have aj:=ah rfl;subst aj
  have al:L=[]:=by
   obtain ⟨_,_,h1,_,_,_,h5⟩:=HV.out;cases L with
   | nil=>rfl
   | cons x l =>
    obtain ⟨b,o,h6,_⟩:=h5 0 (by simp);injection h1 with h1
    rw [h6] at h1;cases h1
  subst al;have am:∀ w:World,(binOp .eql 93 (.slice none 0 0) (.slice none 0 0)).run Tryz.prog w=.ok (.bool true) w:=fun w=>Lib.run_eql_slice_nil w 93 99 none 0 0 0 0 Tryz.underlying93
  clear ah hl;show Calls _ _ #[.slice none 0 0] _ _;go_enter Tryz.func186,Tryz.ntmps186;go_wp2;go_ret;exact ⟨⟨_,rfl,ix.nil _ _⟩,gO.refl _⟩
 | some ad =>
  obtain ⟨n,hn⟩:∃ n,n=L.length:=⟨_,rfl⟩;have ap:Hid (kL w (.slice (some ad) n c) L):=af (by rw [hn];exact HV.out);rw [<-hn] at hl⊢;have HN:=af hn;clear hn ah HV;have am:∀ w:World,(binOp .eql 93 (.slice (some ad) n c) (.slice none 0 0)).run Tryz.prog w=.ok (.bool false) w:=fun w=>Lib.run_eql_slice_nil w 93 99 (some ad) n c 0 0 Tryz.underlying93
  go_enter Tryz.func186,Tryz.ntmps186;go_wp2_with (at_builtin;refine Cd rfl _ _ rfl w.heap.size _ [] rfl (AW w _ (Nat.le_refl _)) ad n c L rfl (ap.out.kept ((gO.refl _).alloc _)) (by simp;have:=HN.out;omega) (by simp) ?_;intro v7 w7 ag ai;have O7:=af ag;have aq:=af ai;clear ag ai);go_ret;exact ⟨⟨_,rfl,O7.out⟩,((gO.refl _).alloc _).app aq.out⟩
def DecidesR (g:Nat) (lb:Array Value) (p:Nat->Bool) (w:World):Prop :=
 ∀ (W:World) (x:Nat),gO w W->ie 152 x->Calls Tryz.prog g (#[km x]++lb) W fun e W'=>e=.returned (.bool (p x))/\gO W W'
theorem AC (g:Nat) (lb:Array Value) (eg:∀ args w,(callFunc g args).run Tryz.prog w=.ok (.enter g args) w) (p:Nat->Bool) (v:Value) (L:List Nat) (w:World)
  (hp:DecidesR g lb p w) (hv:kL w v L) :
  Calls Tryz.prog 242 #[v,.func (.func g) #[] lb] w fun e w'=>(∃ n:Int,e=.returned (.int .i64 n)/\(decide (0<=n)=L.any p))/\gO w w':=by
 obtain ⟨a,c,rfl,⟨hc,_⟩,hl,ah,hx⟩:=hv;obtain ⟨n,hn⟩:∃ n,n=L.length:=⟨_,rfl⟩;have hbig:n<=10000:=by omega
 rw [<-hn];have HX:=af hx;have HN:=af hn;have HP:=af hp;have aA:=af ah;clear hx hn hp hl hc ah;go_enter Tryz.func242,Tryz.ntmps242;go_wp2;go_loopg [8] n (fun kx i wr=>∃ k:Nat,k<=n/\i=.int .i64 k/\n - k<=kx/\Hid (∀ x∈L.take k,p x=false)/\Hid (gO w wr))
 case atStart=>exact ⟨0,Nat.zero_le _,rfl,by omega,af (by simp),af (gO.refl _)⟩
 case round =>
  obtain ⟨k,hk,rfl,aB,HF,HK⟩:=hrel;by_cases ah:k<n
  ·have ap:k<L.length:=by have:=HN.out;omega
   obtain ⟨b,o,rfl,aq⟩:=HX.out k ap;have ag:=nV aq HK.out;have ai:=aA.out L[k] (List.getElem_mem _);obtain ⟨x,aj⟩:∃ x,x=L[k]:=⟨_,rfl⟩;rw [<-aj] at ag ai;have ar:=af aj;have al:Hid (wr.rangeAt b (o+k*3) [.int .i64 (iM x),.int .u64 (jK x),.int .u64 (jF x)]):=af ag;have HC:Hid (∀ W,gO w W->Calls Tryz.prog g (#[.agg #[.int .i64 (iM x),.int .u64 (jK x),.int .u64 (jF x)]]++lb) W fun e W'=>e=.returned (.bool (p x))/\gO W W'):=af fun W hk=>HP.out W x hk ai
   have aC:(k:Int)<(n:Int):=by omega
   obtain ⟨z0,aw⟩:∃ z,z=iM x:=⟨_,rfl⟩;obtain ⟨z1,ay⟩:∃ z,z=jK x:=⟨_,rfl⟩;obtain ⟨z2,az⟩:∃ z,z=jF x:=⟨_,rfl⟩;rw [<-aw,<-ay,<-az] at al HC;clear aq ag aj ai aw ay az;cases hq:p x with
   | true =>
    rw [hq] at HC;have HQ:=af hq;clear hq;go_wp2_with (first | (with_reducible refine wpList_load_mid rfl 99 _ rfl b (o+k*3) rfl _ _ al.out Tryz.underlying99 rfl (by kernel_rfl) ?_) | (go_at_fn g;refine (HC.out _ HK.out).mono ?_;rintro e w' ⟨rfl,am⟩));go_ret;refine ⟨⟨k,rfl,?_⟩,HK.out.trans am⟩
    have:L.any p=true:=List.any_eq_true.2 ⟨x,by rw [ar.out];exact List.getElem_mem _,HQ.out⟩
    rw [this];simp
   | false =>
    rw [hq] at HC;have HQ:=af hq;clear hq;go_wp2_with (first | (with_reducible refine wpList_load_mid rfl 99 _ rfl b (o+k*3) rfl _ _ al.out Tryz.underlying99 rfl (by kernel_rfl) ?_) | (go_at_fn g;refine (HC.out _ HK.out).mono ?_;rintro e w' ⟨rfl,am⟩));go_roundg (n - (k+1))
    case measure=>omega
    case rel =>
     refine ⟨k+1,by omega,by go_num,Nat.le_refl _,af ?_,af (HK.out.trans am)⟩;intro y hy;rw [List.take_succ_eq_append_getElem ap] at hy;rcases List.mem_append.1 hy with hy | hy
     ·exact HF.out y hy
     ·simp at hy;rw [hy,<-ar.out];exact HQ.out
  ·go_wp2;go_ret;refine ⟨⟨-1,rfl,?_⟩,HK.out⟩;have hh:=HF.out;rw [List.take_of_length_le (by have:=HN.out;omega)] at hh
   have:L.any p=false:=by rw [List.any_eq_false];intro y hy;simp [hh y hy]
   rw [this];rfl
theorem Fn (g:Nat) (lb:Array Value) (eg:∀ args w,(callFunc g args).run Tryz.prog w=.ok (.enter g args) w) (p:Nat->Bool) (v:Value) (L:List Nat) (w:World)
  (hp:DecidesR g lb p w) (hv:kL w v L) :
  Calls Tryz.prog 190 #[v,.func (.func g) #[] lb] w fun e w'=>e=.returned (.bool (L.any p))/\gO w w':=by
 have h:=AC g lb eg p v L w hp hv;have H:=af h;clear h hp hv eg;obtain ⟨r,hr⟩:∃ r,r=L.any p:=⟨_,rfl⟩;rw [<-hr] at H⊢;clear hr;go_enter Tryz.func190,Tryz.ntmps190;go_wp2_with (go_at_call 242;refine H.out.mono ?_;rintro e w' ⟨⟨n,rfl,hn⟩,hK⟩;have HN:=af hn;clear hn);go_ret;exact ⟨by rw [<-HN.out];rfl,hK⟩
theorem wU (c B:Nat) (w:World) (hc:ie 152 c) (h0:w.cell? ⟨B,0,none⟩=some (.int .i64 (iM c))) (h1:w.cell? ⟨B,1,none⟩=some (.int .u64 (jK c))) (h2:w.cell? ⟨B,2,none⟩=some (.int .u64 (jF c))) :
  DecidesR 191 #[.pointer (some ⟨B,0,none⟩)] (fun t=>iE t c) w:=by
 intro W x hK hx;show Calls Tryz.prog _ _ W fun e W'=>e=.returned (.bool (iE x c))/\gO W W'
 have h0':=hK.cell h0;have h1':=hK.cell h1;have h2':=hK.cell h2;have HP:Hid (∀ W',Calls Tryz.prog 192 #[km x,km c] W' fun e w'=>e=.returned (.bool (iE x c))/\∃ C O,w'=(W'.alloc C).alloc O):=af fun W'=>DX hx hc W'
 have ag:B<W.heap.size:=by
  by_cases h:B<W.heap.size
  ·exact h
  ·simp [World.cell?,Array.getElem?_eq_none (Nat.le_of_not_lt h)] at h0'
 unfold km at *;generalize iE x c=q at *;generalize iM c=y0 at *;generalize jK c=y1 at *;generalize jF c=y2 at *;generalize iM x=z0 at *;generalize jK x=z1 at *;generalize jF x=z2 at *;clear h0 h1 h2 hK hx hc;show Calls Tryz.prog 191 #[.agg #[.int .i64 z0,.int .u64 z1,.int .u64 z2],.pointer (some ⟨B,0,none⟩)] W _;go_enter Tryz.func191,Tryz.ntmps191;go_wp2_with (go_at_call 192;refine (HP.out _).mono ?_;rintro e w' ⟨rfl,C,O,rfl⟩);go_ret;exact ⟨rfl,(((gO.refl _).alloc _).alloc _).alloc _⟩
theorem Hf {ops:Array Oper} {rest:List Oper} {o:Oper} {a:Act} {Q:Exit->Act->World->Prop} {w:World} (ah:o.guard=none) (s x:Operand)
  (ho:o.op=.call { callee:=.builtin .append,args:=#[s,x],argTypes:=#[93,93] }) (B:Nat) (v:Value) (L:List Nat) (hs:a.eval s=v) (ag:ix w B v L)
  (g c:Nat) (hx:a.eval x=.slice (some ⟨g,0,none⟩) 1 1) (hu:w.rangeAt g 0 (iJ c)) (hc:ie 152 c) (hl:L.length<10000) (hB:B<=w.heap.size)
  (h:∀ v' w',ix w' B v' (L++[c])->Below B w w'->wpList Tryz.prog ops Q rest (a.put o.dst v') w'):wpList Tryz.prog ops Q (o :: rest) a w :=
 Cd ah s x ho B v L hs ag ⟨g,0,none⟩ 1 1 [c] hx ⟨_,1,rfl,⟨by simp,fun h=>by cases h⟩,by simp,by simpa using hc,fun i hi=>⟨g,0,rfl,by
  have:i=0:=by simpa using hi
  subst this;simpa using hu⟩⟩ (by simp;omega) hB h
theorem Dr (l:List Nat) (k:Nat) (h:k<l.length):nP (l.take (k+1))=iu (nP (l.take k)) l[k]:=by
 unfold nP;rw [List.take_succ_eq_append_getElem h,List.foldl_append];rfl
theorem DP (w:World) (x0 x1 x2:Value) (e:TypeId):(w.alloc (.cells #[x0,x1,x2] e)).rangeAt w.heap.size 0 [x0,x1,x2]:=by
 intro j v hj
 match j,hj with
 | 0,hj=>simp at hj;subst hj;simp
 | 1,hj=>simp at hj;subst hj;simp
 | 2,hj=>simp at hj;subst hj;simp
theorem tC (v:Value) (L:List Nat) (w:World) (hv:kL w v L) (hl:L.length<=4097) :
  Calls Tryz.prog 130 #[v] w fun e w'=>(∃ v' M,e=.returned v'/\ix w' w.heap.size v' M/\M.Perm (iy L))/\gO w w':=by
 have aQ:=af (Ai v L w hv);have eg2:∀ args w,(callFunc 191 args).run Tryz.prog w=.ok (.enter 191 args) w:=enters_of Tryz.func191 (by kernel_rfl) rfl;have EG2:=af eg2;have aR:∃ a n c,v=.slice a n c:=by obtain ⟨a,c,h⟩:=hv.shape;exact ⟨a,_,c,h⟩
 obtain ⟨a,nn,c,rfl⟩:=aR;clear hv eg2;go_enter Tryz.func130,Tryz.ntmps130;go_wp2_with fail;refine aQ.out.mono ?_;rintro e w1 ⟨⟨v1,rfl,ay⟩,az⟩;have HS:=af (uM w.heap.size v1 L w1 ay az.size);obtain ⟨a1,c1,aA⟩:=ay.at.shape;obtain ⟨n,hn⟩:∃ n,n=L.length:=⟨_,rfl⟩;rw [<-hn] at aA hl;subst aA;have HN:=af hn;have aS:=af az;clear hn ay az;go_wp2_with fail;refine HS.out.mono ?_;rintro e w2 ⟨rfl,M,ah,al,aB,aC⟩;have aD:gO w w2:=aS.out.app aC;have aF:=af aD;have aG:Hid (M.Perm L/\M.Pairwise (fun a b=>pc a<=pc b)):=⟨ah,al⟩;have aH:M.length=n:=by rw [ah.length_eq];exact HN.out.symm
 have aI:=af aH;have HM:Hid (∀ W,gO w2 W->kL W (.slice a1 n c1) M):=af fun W hk=>aB.at.kept hk
 clear ah al aB aC aD aH HS;go_wp2;go_loopg [3,12] n (fun kx s3 s12 wr=>∃ (k:Nat) (vo:Value),s3=vo/\s12=.int .i64 k/\k<=n/\n - k<=kx/\Hid (ix wr w2.heap.size vo (nP (M.take k)))/\Hid (gO w2 wr))
 case atStart=>exact ⟨0,_,rfl,rfl,Nat.zero_le _,by omega,af (ix.nil _ _),af (gO.refl _)⟩
 case round =>
  obtain ⟨k,vo,rfl,rfl,hk,bf,HO,HK⟩:=hrel;have hsz:=HK.out.size;obtain ⟨ao,co,aJ⟩:=HO.out.at.shape;obtain ⟨mo,ap⟩:∃ mo,mo=(nP (M.take k)).length:=⟨_,rfl⟩;rw [<-ap] at aJ;subst aJ;by_cases bh:k<n
  ·have aK:k<M.length:=by have:=aI.out;omega
   have aT:mo<=k:=by rw [ap];refine Nat.le_trans (tE _ []) ?_;simp;omega
   obtain ⟨b,o,rfl,ar⟩:∃ b o,a1=some ⟨b,o,none⟩/\wr.rangeAt b (o+k*3) (iJ M[k]):=by
    obtain ⟨a',c',h1,_,_,_,h5⟩:=HM.out wr HK.out;injection h1 with h1 h2 h3
    subst h1;exact h5 k aK
   have aw:ie 152 M[k]:=by obtain ⟨_,_,_,_,_,h4,_⟩:=HM.out wr HK.out;exact h4 _ (List.getElem_mem _)
   have ag:=Dr M k aK;obtain ⟨x,aL⟩:∃ x,x=M[k]:=⟨_,rfl⟩;rw [<-aL] at ar aw ag;obtain ⟨out,aq⟩:∃ out,out=nP (M.take k):=⟨_,rfl⟩;rw [<-aq] at ag HO ap;have aM:=af ag;have aU:=af aw
   have aj:Hid (∀ W,gO wr W->W.cell? ⟨wr.heap.size,0,none⟩=some (.int .i64 (iM x))->W.cell? ⟨wr.heap.size,1,none⟩=some (.int .u64 (jK x))->W.cell? ⟨wr.heap.size,2,none⟩=some (.int .u64 (jF x)) ->
    Calls Tryz.prog 190 #[.slice ao mo co,.func (.func 191) #[] #[.pointer (some ⟨wr.heap.size,0,none⟩)]] W fun e w'=>e=.returned (.bool (out.any fun t=>iE t x))/\gO W w'):=af fun W hk h0 h1 h2 =>
     Fn 191 #[.pointer (some ⟨wr.heap.size,0,none⟩)] EG2.out (fun t=>iE t x) _ out W (wU x wr.heap.size W aw h0 h1 h2) ((HO.out.kept hk).at)
   have aV:Hid (iJ x=[.int .i64 (iM x),.int .u64 (jK x),.int .u64 (jF x)]):=rfl;unfold iJ at ar;generalize iM x=z0 at *;generalize jK x=z1 at *;generalize jF x=z2 at *;have aN:=af ar;have aW:=af ap;have bi:(k:Int)<(n:Int):=by omega
   clear ar aw ag aL aq ap;cases hq:out.any (fun t=>iE t x) with
   | true =>
    have HQ:=af hq;rw [hq] at aj;clear hq;go_wp2_with (first | (with_reducible refine wpList_load_mid rfl 99 _ rfl b (o+k*3) rfl _ _ aN.out Tryz.underlying99 rfl (by kernel_rfl) ?_) | (go_at_call 190;refine (aj.out _ ((gO.refl _).alloc _) (by simp) (by simp) (by simp)).mono ?_;rintro e w3 ⟨rfl,ai⟩));go_roundg (n - (k+1))
    case measure=>omega
    case rel=>exact ⟨k+1,_,rfl,by go_num,by omega,Nat.le_refl _,af (by rw [aM.out,iu,HQ.out];exact HO.out.kept (((gO.refl _).alloc _).trans ai)),af (HK.out.trans (((gO.refl _).alloc _).trans ai))⟩
   | false =>
    have HQ:=af hq;rw [hq] at aj;clear hq;go_wp2_with (first | (with_reducible refine wpList_load_mid rfl 99 _ rfl b (o+k*3) rfl _ _ aN.out Tryz.underlying99 rfl (by kernel_rfl) ?_) | (go_at_call 190;refine (aj.out _ ((gO.refl _).alloc _) (by simp) (by simp) (by simp)).mono ?_;rintro e w3 ⟨rfl,ai⟩;have b0:=ai.cell (p:=⟨wr.heap.size,0,none⟩) (v:=.int .i64 z0) (by simp);have b1:=ai.cell (p:=⟨wr.heap.size,1,none⟩) (v:=.int .u64 z1) (by simp);have b2:=ai.cell (p:=⟨wr.heap.size,2,none⟩) (v:=.int .u64 z2) (by simp);have aX:=ai.size;have aY:=af (HO.out.kept (((gO.refl _).alloc _).trans ai));have aZ:=af (HK.out.trans (((gO.refl _).alloc _).trans ai));clear ai) | (at_builtin;refine Hf rfl _ _ rfl w2.heap.size _ out rfl (aY.out.kept ((gO.refl _).alloc _)) w3.heap.size x rfl (by rw [aV.out];exact DP w3 _ _ _ _) aU.out (by have:=aW.out;omega) (by simp at aX⊢;omega) ?_;intro v4 w4 am aO;have a_:=af am;have bd:=af aO;clear am aO));go_roundg (n - (k+1))
    case measure=>omega
    case rel=>exact ⟨k+1,v4,rfl,by go_num,by omega,Nat.le_refl _,af (by rw [aM.out,iu,HQ.out];exact a_.out),af ((aZ.out.alloc _).app bd.out)⟩
  ·have aP:k=n:=by omega
   have HF:Hid (ix wr w2.heap.size (.slice ao mo co) (nP M)):=af (by have h:=HO.out;rw [aP,<-aI.out,List.take_length] at h;exact h);clear aP ap;go_wp2;go_ret;exact ⟨⟨_,nP M,rfl,HF.out.mono aF.out.size,AF aG.out.1 aG.out.2⟩,aF.out.trans HK.out⟩
structure lQ (V T:Nat) (f:Fm) (L st:List Nat) (m:Nat):Prop where
 le:m<=f.nodes.length
 lt:∀ r∈L,ie (24+m) r
 mkd:∀ r∈L,jH V (io V T f.nodes) r
 len:L.length<=1024
 run:∃ R:List Nat,L.Perm R/\nc V T f.nodes=(kU V f.nodes m R).map fun p=>(p.1,st++p.2)
theorem lQ.start {V T:Nat} {f:Fm} (ag:Ok f V T):lQ V T f [cond V T] [] f.nodes.length:=by
 have hT:=ag.tlt;refine ⟨Nat.le_refl _,fun r hr=>?_,fun r hr=>?_,by simp,⟨[cond V T],.refl _,?_⟩⟩
 ·simp at hr;subst hr;exact j' (by omega) ag.v24
 ·simp at hr;subst hr;refine oL (by omega) ag.v24 ?_;unfold io;refine lX V f.nodes _ _ _ ?_;rw [List.getD_eq_getElem?_getD,Int.toNat_natCast,List.getElem?_set_self (by simp;omega)];rfl
 ·unfold nc;cases kU V f.nodes f.nodes.length [cond V T] with
  | none=>rfl
  | some p=>rfl
theorem lQ.done {V T:Nat} {f:Fm} {L st:List Nat} {m:Nat} (h:lQ V T f L st m) (hn:∀ c∈L,∀ j,c.testBit (24+j)=true->False):∃ R,nc V T f.nodes=some (R,st)/\L.Perm R:=by
 obtain ⟨R,hp,hr⟩:=h.run;refine ⟨R,?_,hp⟩;rw [hr,wh V f.nodes 0 R m (Nat.zero_le _) fun j _ _=>?_]
 ·show some (R,st++[])=_;rw [List.append_nil]
 ·rw [List.any_eq_false];intro r hr hb;exact hn r (hp.mem_iff.2 hr) j hb
theorem lQ.at {V T:Nat} {f:Fm} {L st:List Nat} {m i:Nat} (h:lQ V T f L st m) (hi:∃ c∈L,c.testBit (24+i)=true) (ag:∀ c∈L,∀ j,c.testBit (24+j)=true->j<=i) :
  i<m/\(io V T f.nodes).getD (V+i) false=true/\∃ R:List Nat,L.Perm R/\R.any (fun r=>r.testBit (24+i))=true/\nc V T f.nodes=(kU V f.nodes (i+1) R).map fun p=>(p.1,st++p.2):=by
 obtain ⟨c,hc,hb⟩:=hi;have ah:i<m:=by have:=h.lt c hc _ hb;omega
 obtain ⟨R,hp,hr⟩:=h.run;refine ⟨ah,h.mkd c hc i hb,R,hp,List.any_eq_true.2 ⟨c,hp.mem_iff.1 hc,hb⟩,?_⟩;rw [hr,wh V f.nodes (i+1) R m (by omega) fun j h1 _=>?_];rw [List.any_eq_false];intro r hr hb;have:=ag r (hp.mem_iff.2 hr) j hb;omega
theorem lQ.full {V T:Nat} {f:Fm} {L st:List Nat} {m i:Nat} (h:lQ V T f L st m) (hi:∃ c∈L,c.testBit (24+i)=true) (ag:∀ c∈L,∀ j,c.testBit (24+j)=true->j<=i)
  (hl:4096<(iP V (f.nodes.getD i iZ) i L).length):nc V T f.nodes=none:=by
 obtain ⟨_,_,R,hp,ha,hr⟩:=h.at hi ag;rw [hr]
 conv=>lhs;unfold kU
 rw [if_pos ha,if_neg (by rw [<-(nr (V:=V) (i:=i) (x:=f.nodes.getD i iZ) hp).length_eq];omega)];rfl
theorem lQ.many {V T:Nat} {f:Fm} {L M st:List Nat} {m i:Nat} (h:lQ V T f L st m) (hi:∃ c∈L,c.testBit (24+i)=true) (ag:∀ c∈L,∀ j,c.testBit (24+j)=true->j<=i)
  (hM:M.Perm (iy (iP V (f.nodes.getD i iZ) i L))) (hl:1024<M.length):nc V T f.nodes=none:=by
 obtain ⟨_,_,R,hp,ha,hr⟩:=h.at hi ag;have he:=rA (nr (V:=V) (i:=i) (x:=f.nodes.getD i iZ) hp);rw [hr]
 conv=>lhs;unfold kU
 rw [if_pos ha];split
 ·rw [if_neg (by rw [<-he,<-hM.length_eq];omega)];rfl
 ·rfl
theorem lQ.next {V T:Nat} {f:Fm} (ag:Ok f V T) {L M st:List Nat} {m i:Nat} (h:lQ V T f L st m) (hi:∃ c∈L,c.testBit (24+i)=true) (ah:∀ c∈L,∀ j,c.testBit (24+j)=true->j<=i)
  (am:(iP V (f.nodes.getD i iZ) i L).length<=4096) (hM:M.Perm (iy (iP V (f.nodes.getD i iZ) i L))) (hl:M.length<=1024):lQ V T f M (st++[M.length]) i:=by
 obtain ⟨ap,aq,R,hp,ha,hr⟩:=h.at hi ah;have ar:=h.le;have aj:i<f.nodes.length:=by omega
 have al:f.nodes.getD i iZ=f.nodes[i]:=by simp [List.getD_eq_getElem?_getD,aj]
 have ai:∀ r∈M,r∈iP V (f.nodes.getD i iZ) i L:=fun r hr=>nx (hM.mem_iff.1 hr)
 refine ⟨by omega,fun r hr=>?_,fun r hr=>?_,hl,⟨iy (iP V (f.nodes.getD i iZ) i R),?_,?_⟩⟩
 ·refine uB ag.v24 (by rw [al];exact ag.args i aj) (fun c hc j hj=>?_) r (ai r hr);by_cases aw:j<24
  ·omega
  ·have:=ah c hc (j - 24) (by rw [show 24+(j - 24)=j by omega];exact hj);omega
 ·exact sr ag.v24 h.mkd (fun hk a ha=>by rw [al] at ha;exact ⟨(ag.args i aj a ha).1,kG V T f ag i aj hk a ha⟩) r (ai r hr)
 ·rw [<-rA (nr (V:=V) (i:=i) (x:=f.nodes.getD i iZ) hp)];exact hM
 ·rw [hr];have he:=rA (nr (V:=V) (i:=i) (x:=f.nodes.getD i iZ) hp)
  conv=>lhs;unfold kU
  rw [if_pos ha,if_pos (by rw [<-(nr (V:=V) (i:=i) (x:=f.nodes.getD i iZ) hp).length_eq];exact am),if_pos (by rw [<-he,<-hM.length_eq];exact hl),<-he,<-hM.length_eq];cases kU V f.nodes i (iy (iP V (f.nodes.getD i iZ) i L)) with
  | none=>rfl
  | some p=>show some _=some _;simp
theorem rn (V:Nat) (x:Nd) (i:Nat) (L:List Nat) (k:Nat) (h:k<L.length):iP V x i (L.take (k+1))=iP V x i (L.take k)++wY V x i L[k]:=by
 unfold iP;rw [List.take_succ_eq_append_getElem h,List.flatMap_append];simp
def KP (V T:Nat) (nodes:List Nd):Option (List Nat):=(Kd V T nodes).map fun l=>if T<V then [2^T] else l.getD (T - V) []
theorem EH (v:Value) (w:World):(Instr.typeAssert (.iface 60 v) 31 60 true).run Tryz.prog w=.ok (.tuple #[v,.bool true]) w:=by kernel_rfl
theorem FJ (c:Nat) (w:World) (hc:c<=9223372036854775807):Calls Tryz.prog 17 #[iV c] w fun e w'=>e=.returned (.int .i64 c)/\w=w':=by
 by_cases h:c=0
 ·subst h;rw [kj];go_enter Tryz.func17,Tryz.ntmps17;go_wp2;refine bodyPost_ret (v:=.int .i64 0) ?_ rfl ⟨rfl,rfl⟩;simp [results,Tryz.results17,go_sem]
 ·rw [iF h];clear h;go_enter Tryz.func17,Tryz.ntmps17;go_wp2;rw [EH];go_wp2;go_ret;exact ⟨rfl,rfl⟩
theorem Hz (a b:List Int) (va vb:Value) (w:World) (ha:gU w va a) (hb:gU w vb b) (h:a.length≠b.length) :
  Calls Tryz.prog 158 #[va,vb] w fun e w'=>e=.returned (.bool false)/\gO w w':=by
 obtain ⟨aa,ca,rfl,_,ai,ag⟩:=ha;obtain ⟨ab,cb,rfl,_,aj,ah⟩:=hb;have al:((a.length:Int) == (b.length:Int))=false:=by simpa using (by omega:(a.length:Int)≠b.length)
 clear h ag ah;go_enter Tryz.func158,Tryz.ntmps158;go_wp2;go_ret;exact ⟨rfl,gO.refl _⟩
theorem Hy (a b:List Int) (va vb:Value) (w:World) (ha:gU w va a) (hb:gU w vb b) :
  Calls Tryz.prog 158 #[va,vb] w fun e w'=>e=.returned (.bool (decide (a=b)))/\gO w w':=by
 by_cases h:a.length=b.length
 case neg =>
  refine (Hz a b va vb w ha hb h).mono ?_;rintro e w' ⟨rfl,h2⟩;refine ⟨?_,h2⟩
  have:a≠b:=fun e=>h (by rw [e])
  simp [this]
 obtain ⟨aa,ca,rfl,_,ay,am⟩:=ha;obtain ⟨ab,cb,rfl,_,az,ap⟩:=hb;obtain ⟨n,hn⟩:∃ n,n=a.length:=⟨_,rfl⟩;have aj:n=b.length:=by omega
 rw [<-aj,<-hn];have HA:=af am;have HB:=af ap;have Hn:=af hn;have aq:=af aj;have aC:n<=140737488355328:=by omega
 clear am ap h hn aj ay az;go_enter Tryz.func158,Tryz.ntmps158;go_wp2;go_loopw [5,13] (fun _ i wr=>∃ k:Nat,k<=n/\i=.int .i64 k/\(∀ j,j<k->a[j]?=b[j]?)/\gO w wr) (fun _ i _=>n - (intOf i).toNat)
 case atStart=>exact ⟨0,Nat.zero_le _,rfl,by simp,gO.refl _⟩
 case round =>
  obtain ⟨k,hk,rfl,ah,ag⟩:=hrel;have HS:=af ah;clear ah;by_cases aD:k<n
  ·have ar:k<a.length:=by have:=Hn.out;omega
   have aw:k<b.length:=by have:=aq.out;omega
   obtain ⟨ba,oa,rfl,c1⟩:=HA.out k ar;obtain ⟨bb,ob,rfl,c2⟩:=HB.out k aw;have c1':=ag.cell c1;have c2':=ag.cell c2;obtain ⟨x,hx⟩:∃ x,x=a[k]:=⟨_,rfl⟩;obtain ⟨y,hy⟩:∃ x,x=b[k]:=⟨_,rfl⟩;rw [<-hx] at c1 c1';rw [<-hy] at c2 c2';have HX:=af hx;have HY:=af hy;have aA:=af ar;have aB:=af aw;clear hx hy c1 c2;by_cases ai:x=y
   ·have e1:(x == y)=true:=by simpa using ai
    have e2:(x != y)=false:=by simpa using ai
    have al:=af ai;clear ai;go_wp2;go_quiet (fail);go_wp2;go_roundw
    case rel =>
     refine ⟨k+1,by omega,by simp,fun j hj=>?_,ag.drewN _⟩;by_cases e:j=k
     ·subst e;rw [List.getElem?_eq_getElem aA.out,List.getElem?_eq_getElem aB.out,<-HX.out,<-HY.out,al.out]
     ·exact HS.out j (by omega)
    case measure=>simp [intOf];omega
   ·have e1:(x == y)=false:=by simpa using ai
    have e2:(x != y)=true:=by simpa using ai
    have al:=af ai;clear ai;go_wp2;go_quiet (fail);go_wp2;go_ret;refine ⟨?_,ag.drewN _⟩
    have:a≠b:=by
     intro e;subst e;exact al.out (HX.out.trans HY.out.symm)
    simp [this]
  ·go_wp2;go_ret;refine ⟨?_,ag⟩;have aF:k=n:=by omega
   have:a=b:=by
    apply List.ext_getElem?;intro j;by_cases hj:j<k
    ·exact HS.out j hj
    ·rw [List.getElem?_eq_none (by have:=Hn.out;omega),List.getElem?_eq_none (by have:=aq.out;omega)]
   simp [this]
def wW:List Nd:=[⟨3,0,[0,1]⟩,⟨3,0,[0,2]⟩,⟨2,0,[3,4]⟩]
theorem jI {w:World} {cs:Array Value} {e:TypeId} {g:Nat} (hg:g=w.heap.size) {j:Nat} {u:Value} (h:cs[j]?=some u):(w.alloc (.cells cs e)).cell? ⟨g,j,none⟩=some u:=by
 subst hg;simp only [World.cell?,heap_alloc_new];exact h
theorem xm {W:World} {g:Nat} {x y:Int} (h0:W.cell? ⟨g,0,none⟩=some (.int .i64 x)) (h1:W.cell? ⟨g,1,none⟩=some (.int .i64 y)):gU W (.slice (some ⟨g,0,none⟩) 2 2) [x,y]:=by
 refine ⟨_,2,rfl,⟨Nat.le_refl _,fun h=>by cases h⟩,by simp,fun i hi=>⟨g,0,rfl,?_⟩⟩
 match i,hi with
 | 0,_=>simpa using h0
 | 1,_=>simpa using h1
theorem Am (w:World):Calls Tryz.prog 43 #[] w fun e w'=>(∃ v,e=.returned (.agg #[.int .i64 3,v,.int .i64 5])/\(∃ a n c,v=.slice a n c)/\ii w' v wW)/\gO w w':=by
 go_enter Tryz.func43,Tryz.ntmps43;go_wp2;generalize hW:World.alloc _ (.cells #[.int .i64 3,.int .i64 0,_,.int .i64 3,.int .i64 0,_,.int .i64 2,.int .i64 0,_] 106)=W;have hk:gO w W:=by rw [<-hW];exact (((((gO.refl w).alloc _).alloc _).alloc _).alloc _).alloc _
 have hs:∀ (j:Nat) (u:Value),(#[.int .i64 3,.int .i64 0,.slice (some ⟨w.heap.size+1,0,none⟩) 2 2,.int .i64 3,.int .i64 0,.slice (some ⟨w.heap.size+1+1,0,none⟩) 2 2,.int .i64 2,.int .i64 0,.slice (some ⟨w.heap.size+1+1+1,0,none⟩) 2 2]:Array Value)[j]?=some u->W.cell? ⟨w.heap.size+1+1+1+1,j,none⟩=some u:=by
  intro j u h;rw [<-hW];exact jI (by simp [World.size_alloc]) h
 have h1:gU W (.slice (some ⟨w.heap.size+1,0,none⟩) 2 2) [0,1]:=xm (by rw [<-hW];exact gO.cell ((((gO.refl _).alloc _).alloc _).alloc _) (jI (by simp [World.size_alloc]) rfl)) (by rw [<-hW];exact gO.cell ((((gO.refl _).alloc _).alloc _).alloc _) (jI (by simp [World.size_alloc]) rfl));have h2:gU W (.slice (some ⟨w.heap.size+1+1,0,none⟩) 2 2) [0,2]:=xm (by rw [<-hW];exact gO.cell (((gO.refl _).alloc _).alloc _) (jI (by simp [World.size_alloc]) rfl)) (by rw [<-hW];exact gO.cell (((gO.refl _).alloc _).alloc _) (jI (by simp [World.size_alloc]) rfl));have h3:gU W (.slice (some ⟨w.heap.size+1+1+1,0,none⟩) 2 2) [3,4]:=xm (by rw [<-hW];exact gO.cell ((gO.refl _).alloc _) (jI (by simp [World.size_alloc]) rfl)) (by rw [<-hW];exact gO.cell ((gO.refl _).alloc _) (jI (by simp [World.size_alloc]) rfl));have r0:W.cell? ⟨w.heap.size,0,none⟩=some (.int .i64 3):=by rw [<-hW];exact gO.cell (((((gO.refl _).alloc _).alloc _).alloc _).alloc _) (jI rfl rfl)
 have r1:W.cell? ⟨w.heap.size,1,none⟩=some (.slice (some ⟨w.heap.size+1+1+1+1,0,none⟩) 3 3):=by rw [<-hW];exact gO.cell (((((gO.refl _).alloc _).alloc _).alloc _).alloc _) (jI rfl rfl)
 have r2:W.cell? ⟨w.heap.size,2,none⟩=some (.int .i64 5):=by rw [<-hW];exact gO.cell (((((gO.refl _).alloc _).alloc _).alloc _).alloc _) (jI rfl rfl)
 refine bodyPost_ret (v:=.agg #[.int .i64 3,.slice (some ⟨w.heap.size+1+1+1+1,0,none⟩) 3 3,.int .i64 5]) (by simp [results,Tryz.results43,go_sem,r0,r1,r2]) rfl ?_;refine ⟨⟨_,rfl,⟨_,_,_,rfl⟩,_,3,rfl,⟨Nat.le_refl _,fun h=>by cases h⟩,by decide,fun i hi=>⟨_,0,rfl,?_⟩⟩,hk⟩
 match i,hi with
 | 0,_=>exact ⟨_,hs 0 _ rfl,hs 1 _ rfl,hs 2 _ rfl,h1⟩
 | 1,_=>exact ⟨_,hs 3 _ rfl,hs 4 _ rfl,hs 5 _ rfl,h2⟩
 | 2,_=>exact ⟨_,hs 6 _ rfl,hs 7 _ rfl,hs 8 _ rfl,h3⟩
def IL:Fm:=⟨3,wW,5⟩
theorem ER:jP IL=0:=by decide
theorem JR:kt 3 5 IL=true:=by decide
theorem IR:Ok IL 3 5:=by
 obtain ⟨V,T,h⟩:=IU IL ER;have h1:(3:Int)=(V:Int):=h.vars;have h2:(5:Int)=(T:Int):=h.top;obtain rfl:V=3:=by omega
 obtain rfl:T=5:=by omega
 exact h
theorem Kj:pc 0=0/\pc 1=1/\pc 2=1/\pc 3=2/\pc 4=1/\pc 5=2/\pc 6=2/\pc 7=3:=by
 have h0:pc 0=0:=by unfold pc;simp
 have h1:pc 1=1:=by unfold pc;simp [h0]
 have h2:pc 2=1:=by unfold pc;simp [h1]
 have h3:pc 3=2:=by unfold pc;simp [h1]
 have h4:pc 4=1:=by unfold pc;simp [h2]
 have h5:pc 5=2:=by unfold pc;simp [h2]
 have h6:pc 6=2:=by unfold pc;simp [h3]
 have h7:pc 7=3:=by unfold pc;simp [h3]
 exact ⟨h0,h1,h2,h3,h4,h5,h6,h7⟩
theorem EJ:io 3 5 wW=[true,true,true,true,true,true]:=by decide
theorem ES (k:Int) (w:World):Calls Tryz.prog 88 #[.int .i64 k,.int .i64 1,.int .i64 16] w fun e w'=>(∃ z,e=.returned (.int .i64 z))/\gO w w':=by
 go_enter Tryz.func88,Tryz.ntmps88;go_wp2;all_goals (go_ret;exact ⟨⟨_,rfl⟩,gO.refl _⟩)
theorem Dd (v:Value) (f:Fm) (w:World) (hv:ii w v f.nodes) :
  Calls Tryz.prog 40 #[ot v f] w fun e w'=>(∃ b,e=.returned (.bool b))/\gO w w':=by
 obtain ⟨a,c,rfl,_,hl,hx⟩:=hv;obtain ⟨n,hn⟩:∃ n,n=f.nodes.length:=⟨_,rfl⟩;rw [<-hn] at hl⊢;obtain ⟨vars,nodes,top⟩:=f;have HX:=af hx;have HN:=af hn;clear hx hn;show Calls _ _ #[.agg #[.int .i64 vars,.slice a n c,.int .i64 top]] _ _;go_enter Tryz.func40,Tryz.ntmps40;go_wp2
 all_goals first
  | (go_ret;exact ⟨by simp,(gO.refl _).alloc _⟩)
  | skip
 all_goals
  go_loopw [3,4,36] (fun p q i wr=>∃ (k:Nat) (x y:Int),k<=n/\i=.int .i64 k/\p=.int .i64 x/\q=.int .i64 y/\gO w wr) (fun _ _ i _=>n - (intOf i).toNat)
  case atStart=>exact ⟨0,0,0,Nat.zero_le _,rfl,rfl,rfl,(gO.refl _).alloc _⟩
  case round =>
   obtain ⟨k,x,y,hk,rfl,rfl,rfl,hK⟩:=hrel;by_cases am:k<n
   ·obtain ⟨b,o,rfl,u,h1,h2,h3,h4⟩:=HX.out k (by have:=HN.out;omega);obtain ⟨ax,cx,rfl,_,aj,al⟩:=h4;have ag:=af (jL (hK.cell h1) (hK.cell h2) (hK.cell h3));clear al h1 h2 h3;generalize nodes[k].kind=kd at ag;generalize nodes[k].k=kk at ag;generalize nodes[k].args.length=na at ag aj;by_cases ai:kd=4
    ·subst ai;go_wp2_with (with_reducible refine wpList_load_mid rfl 106 _ rfl b (o+k*3) rfl _ _ ag.out Tryz.underlying106 rfl (by kernel_rfl) ?_);have d1:(wr.alloc (.cells #[.int .i64 4,.int .i64 kk,.slice ax na cx] 106)).cell? ⟨wr.heap.size,1,none⟩=some (.int .i64 kk):=by simp
     have d2:(wr.alloc (.cells #[.int .i64 4,.int .i64 kk,.slice ax na cx] 106)).cell? ⟨wr.heap.size,2,none⟩=some (.slice ax na cx):=by simp
     go_region_held3 (fun w'=>w'.cell? ⟨wr.heap.size,1,none⟩=some (.int .i64 kk)/\w'.cell? ⟨wr.heap.size,2,none⟩=some (.slice ax na cx))
      (first | go_keep | exact ⟨ah.cell d1,ah.cell d2⟩)
      (first | (go_at_call 88;refine (ES kk _).mono ?_;rintro e w5 ⟨⟨z,rfl⟩,ah⟩))
     go_wp2;go_roundw
     case rel=>exact ⟨k+1,_,_,by omega,by simp,rfl,rfl,(hK.alloc _).trans ((gO.refl _).drew.trans ah)⟩
     case measure=>simp [intOf];omega
    ·have e4:(kd == 4)=false:=by simpa using ai
     go_wp2_with (with_reducible refine wpList_load_mid rfl 106 _ rfl b (o+k*3) rfl _ _ ag.out Tryz.underlying106 rfl (by kernel_rfl) ?_);go_roundw
     case rel=>exact ⟨k+1,_,_,by omega,by simp,rfl,rfl,hK.alloc _⟩
     case measure=>simp [intOf];omega
   ·go_wp2;all_goals (try go_quiet (fail))
    all_goals (try go_wp2)
    all_goals (go_ret;first | exact ⟨⟨_,rfl⟩,hK⟩ | exact ⟨.inl rfl,hK⟩ | exact ⟨.inr rfl,hK⟩)
section
open Go.RowKit Go.ChangeShapes Go.WideShapes Go.ChangeAt Go.Joins Go.Deep
theorem KC:ownKnob Tryz.prog.godebug=none:=by kernel_rfl
theorem yC:laidOutB Tryz.prog=true:=by kernel_rfl
theorem EP:Tryz.prog.cellsOf 41=3:=by kernel_rfl
theorem tm:Tryz.prog.cellsOf 106=3:=by kernel_rfl
theorem vq:Tryz.prog.cellsOf 3=1:=by kernel_rfl
theorem Ae:Tryz.prog.cellsOf 22=1:=by kernel_rfl
theorem Ab:Tryz.prog.bytesOf 106=40:=by kernel_rfl
theorem CL:Tryz.prog.bytesOf 3=8:=by kernel_rfl
theorem lH {H:Type} {P:Program} {e:TypeId}:∀ {l:List (DataW H)} {d:DataW H},d∈l->∀ n∈d.weights P e,n∈DataW.weightsAll P e l
 | d' :: r,d,hd,n,hn=>by
  simp only [DataW.weightsAll,List.mem_append];rcases List.mem_cons.1 hd with rfl | h
  ·exact .inl hn
  ·exact .inr (lH h n hn)
theorem sP (b o j:Nat):(⟨b,o,none⟩:Addr).add j=⟨b,o+j,none⟩:=by unfold Addr.add;split <;> simp_all
section
variable {H:Type} {enc:TypeId × Value->H} {W:World} {base:Nat}
theorem Df {fuel:Nat} {cs:List Value} {x:DataW H × List MemPlace} (hb:∀ n∈x.1.weights Tryz.prog 22,n<=reachBytes)
  (h:DataW.trod enc Tryz.prog W base (fun _=>true) true fuel 22 cs=some x):∃ u xs,cs=[u]/\gU W u xs/\∀ z∈xs,-9223372036854775808<=z/\z<=9223372036854775807:=by
 rcases open_ints Tryz.underlying22 Tryz.underlying3 vq h with ⟨rfl,rfl⟩ | ⟨a,len,cap,zs,rfl,_,hl,hm,hz,rfl,ag,ai⟩
 ·exact ⟨_,[],rfl,gU.nil _,by simp⟩
 ·simp only [if_true] at hz
  have aj:=hb ((zs.take len).length*8+(zs.drop len).length*8) (by
   simp only [DataW.weights,Tryz.underlying22,CL,List.mem_cons];exact .inl (by simp [lits];omega))
  simp [reachBytes] at aj;refine ⟨_,zs.take len,rfl,⟨some a,cap,by simp;omega,⟨by simp;omega,fun h=>by cases h⟩,by simp;omega,fun i hi=>?_⟩,fun z hz=>bounds_i64 (ai z (List.mem_of_mem_take hz))⟩;simp only [List.length_take] at hi;have hc:=ag i (by omega);obtain ⟨b,o,spot⟩:=a;have ah:spot=none:=World.cell?_spot (ag 0 (by omega));subst ah;refine ⟨b,o,rfl,?_⟩;have e:(zs.take len)[i]'(by simp;omega)=zs.getD i 0:=by simp [List.getD_eq_getElem?_getD,show i<zs.length by omega]
  rw [e,<-hc];congr 1;by_cases h0:i=0
  ·subst h0;rfl
  ·simp [Addr.add,h0]
instance:Inhabited Nd:=⟨⟨0,0,[]⟩⟩
def Ja (x:Nd):Prop:=(-9223372036854775808<=x.kind/\x.kind<=9223372036854775807)/\(-9223372036854775808<=x.k/\x.k<=9223372036854775807)/\∀ z∈x.args,-9223372036854775808<=z/\z<=9223372036854775807
def I_ (f:Fm):Prop:=(-9223372036854775808<=f.vars/\f.vars<=9223372036854775807)/\(-9223372036854775808<=f.top/\f.top<=9223372036854775807)/\∀ x∈f.nodes,Ja x
theorem AP {fuel:Nat} {cs:List Value} {x:DataW H × List MemPlace} (hb:∀ n∈x.1.weights Tryz.prog 39,n<=reachBytes)
  (h:DataW.trod enc Tryz.prog W base (fun _=>true) true fuel 39 cs=some x):∃ u xs,cs=[u]/\ii W u xs/\∀ y∈xs,Ja y:=by
 rcases open_slice Tryz.underlying39 h with ⟨rfl,rfl⟩ | ⟨a,len,cap,m,n,D,Pl,rfl,_,hl,hm,ai,rfl,hx⟩
 ·exact ⟨_,[],rfl,⟨none,0,rfl,⟨by simp,fun _=>rfl⟩,by simp,fun i h=>by simp at h⟩,by simp⟩
 ·simp only [if_true] at ai;have al:=ai.symm;subst al
  have am:=hb (cap*40) (by
   simp only [DataW.weights,Tryz.underlying39,Ab,List.mem_cons];refine .inl ?_;simp;omega)
  simp [reachBytes] at am
  have each:∀ i,i<len->∃ y:Nd,Ja y/\∃ b o,a=⟨b,o,none⟩/\s_ W b (o+i*3) y:=by
   intro i hi;obtain ⟨cs',hc,ht⟩:=hx i (by omega);rw [tm] at hc;obtain ⟨_,ap,hat⟩:=World.cells?_some hc;obtain ⟨y0,y1,y2,n',hy,aq,g0,g1,g2⟩:=trod_struct3 Tryz.underlying106 ht
   match cs',ap with
   | [c0,c1,c2],_ =>
    have q0:=hat 0 (by omega);have q1:=hat 1 (by omega);have q2:=hat 2 (by omega);simp only [List.getElem?_cons_zero,List.getElem?_cons_succ] at q0 q1 q2;have k0:Tryz.prog.cellsOf 3=1:=vq;have k2:Tryz.prog.cellsOf 22=1:=Ae;simp only [k0,k2,List.drop_zero,List.drop_succ_cons,List.take_succ_cons,List.take_zero] at g0 g1 g2;obtain ⟨kd,e0,az,w0⟩:=DataW.trod_int Tryz.underlying3 g0;obtain ⟨kk,e1,aA,w1⟩:=DataW.trod_int Tryz.underlying3 g1;simp at e0 e1;subst e0 e1;have ar:D i=.agg [y0.1,y1.1,y2.1]:=by simpa using congrArg Prod.fst hy
    obtain ⟨u,xs,e2,hu,aw⟩:=Df (fun n hn=>hb n (by
     simp only [DataW.weights,Tryz.underlying39,List.mem_cons,List.mem_append];refine .inr (.inl (lH (d:=D i) (List.mem_map.2 ⟨i,by simpa using hi,rfl⟩) n ?_));rw [ar];simp only [DataW.weights,Tryz.underlying106];simp only [List.map_cons,DataW.weightsEach,List.mem_append];exact .inr (.inr (.inl hn)))) g2
    simp at e2;subst e2;obtain ⟨b,o,spot⟩:=a
    have ag:spot=none:=by
     obtain ⟨cs0,aj,_⟩:=hx 0 (by omega);rw [tm] at aj;obtain ⟨_,ay,ah⟩:=World.cells?_some aj;have h1:=ah 0 (by omega);rw [List.getElem?_eq_getElem (by omega)] at h1;exact World.cell?_spot (a:=⟨b,o,spot⟩) (by simpa [Addr.add] using h1)
    subst ag;refine ⟨⟨kd,kk,xs⟩,⟨bounds_i64 w0,bounds_i64 w1,aw⟩,b,o,rfl,c2,?_,?_,?_,hu⟩
    ·rw [<-q0,sP,sP];rfl
    ·rw [<-q1,sP,sP]
    ·rw [<-q2,sP,sP]
  obtain ⟨g,hg⟩:=choose_lt each;refine ⟨_,(List.range len).map g,rfl,⟨some a,cap,by simp,⟨by simp;omega,fun h=>by cases h⟩,by simp;omega,fun i hi=>?_⟩,fun y hy=>?_⟩
  ·simp only [List.length_map,List.length_range] at hi;obtain ⟨_,b,o,rfl,h1⟩:=hg i hi;exact ⟨b,o,rfl,by simpa using h1⟩
  ·obtain ⟨i,hi,rfl⟩:=List.mem_map.1 hy;exact (hg i (by simpa using hi)).1
theorem Hu {v:Value} {d:DataW H} {p:List MemPlace} (hv:Value.okWide Tryz.prog W .any base 41 v) (hb:∀ n∈d.weights Tryz.prog 41,n<=reachBytes)
  (h:DataW.Trod enc Tryz.prog W 0 (fun _=>true) true 41 v d p):∃ u f,v=ot u f/\ii W u f.nodes/\I_ f:=by
 obtain ⟨v0,v1,v2,y0,y1,y2,n,rfl,hd,_,t0,t1,t2⟩:=open_agg3 Tryz.underlying41 (by kernel_rfl) EP hv h;obtain ⟨vars,e0,_,w0⟩:=DataW.trod_int Tryz.underlying3 t0;obtain ⟨top,e2,_,w2⟩:=DataW.trod_int Tryz.underlying3 t2;simp at e0 e2;subst e0 e2
 obtain ⟨u,xs,e1,hu,ag⟩:=AP (fun n hn=>hb n (by
  rw [hd];simp only [DataW.weights,Tryz.underlying41];simp only [List.map_cons,DataW.weightsEach,List.mem_append];exact .inr (.inl hn))) t1
 simp at e1;subst e1;exact ⟨v1,⟨vars,xs,top⟩,rfl,hu,bounds_i64 w0,bounds_i64 w2,ag⟩
end
end
theorem vR {w:World} {v:Value} {nodes:List Nd} (h:ii w v nodes) (i:Nat) (hi:i<nodes.length) :
  ∃ b o n c ua un uc,v=.slice (some ⟨b,o,none⟩) n c/\n=nodes.length/\∀ W,gO w W->W.rangeAt b (o+i*3) [.int .i64 nodes[i].kind,.int .i64 nodes[i].k,.slice ua un uc]/\gU W (.slice ua un uc) nodes[i].args:=by
 obtain ⟨a,c,h1,_,_,h4⟩:=h;obtain ⟨b,o,h5,u,e0,e1,e2,e3⟩:=h4 i hi;obtain ⟨ua,un,uc,rfl⟩:=e3.shape;exact ⟨b,o,_,c,ua,un,uc,by rw [h1,h5],rfl,fun W hk=>⟨jL (hk.cell e0) (hk.cell e1) (hk.cell e2),e3.kept hk⟩⟩
def Ez (w':World) (e:Ending) (r:Option (List Nat × List Nat)):Prop :=
 match r with
 | some p=>∃ v1 v2 L,e=.returned (.tuple #[v1,v2,.nilIface])/\ix w' 0 v1 L/\L.Perm p.1/\OwnInts w' 0 v2 (ib p.2)
 | none=>e=.returned (.tuple #[.slice none 0 0,.slice none 0 0,iV 4])
theorem wl (v:Value) (V:Nat) (T:Int) (w:World) (hs:∃ a n c,v=.slice a n c) (ag:∀ W,gO w W->Calls Tryz.prog 124 #[.agg #[.int .i64 V,v,.int .i64 T]] W fun e w'=>e=.returned (.tuple #[.bool false,.nilIface])/\gO W w') :
  Calls Tryz.prog 77 #[.agg #[.int .i64 V,v,.int .i64 T]] w fun e w'=>e=.returned (.tuple #[.slice none 0 0,.slice none 0 0,iV 7])/\gO w w':=by
 obtain ⟨a,n,c,rfl⟩:=hs;have H:=af ag;clear ag;rw [iF (show (7:Nat)≠0 by decide)];go_enter Tryz.func77,Tryz.ntmps77;go_wp2_with (go_at_call 124;refine (H.out _ ((gO.refl _).alloc _)).mono ?_;rintro e w1 ⟨rfl,ah⟩);go_ret3;exact ⟨rfl,((gO.refl _).alloc _).trans ah⟩
theorem ix.zero {w:World} {B:Nat} {v:Value} {L:List Nat} (h:ix w B v L):ix w 0 v L:=h.mono (Nat.zero_le _)
theorem ix.grown {w w':World} {B:Nat} {ob:Option Nat} {v:Value} {L:List Nat} (h:ix w B v L) (hg:w.grownBy w' ob) (ag:∀ g,v.ownBlock=some g->some g≠ob):ix w' B v L:=by
 obtain ⟨⟨h1,h2⟩,h3⟩:=h;refine ⟨⟨h1,h2.imp id ?_⟩,h3⟩;rintro ⟨b,cap,cur,rfl,h5,h6,h7⟩;refine ⟨b,cap,cur,rfl,h5,?_,h7⟩
 have ah:b<w.heap.size:=by
  by_cases h:b<w.heap.size
  ·exact h
  ·rw [Array.getElem?_eq_none (Nat.le_of_not_lt h)] at h6;cases h6
 exact (hg.block b ah (ag b (by simp [Value.ownBlock]))).trans h6
theorem OwnInts.own_lt {w:World} {B:Nat} {v:Value} {xs:List Int} (h:OwnInts w B v xs) {g:Nat} (hg:v.ownBlock=some g):g<w.heap.size:=(h.1.lt g hg).2
theorem Ij (w:World) (B c:Nat) (hB:B<=w.heap.size) (hc:ie 152 c):ix (w.alloc (.cells #[.int .i64 (iM c),.int .u64 (jK c),.int .u64 (jF c)] 99)) B (.slice (some ⟨w.heap.size,0,none⟩) 1 1) [c] :=
 ⟨⟨by simp [iJ],.inr ⟨w.heap.size,1,_,rfl,hB,heap_alloc_new w _,Nat.le_refl _,by unfold maxLen;omega,by simp,by simp [iJ]⟩⟩,by simp,by simpa using hc⟩
theorem kL.len {w:World} {v:Value} {L:List Nat} (h:kL w v L):L.length<=10000:=by obtain ⟨_,_,_,_,h,_⟩:=h;exact h
theorem kL.lt {w:World} {v:Value} {L:List Nat} (h:kL w v L):∀ c∈L,ie 152 c:=by obtain ⟨_,_,_,_,_,h,_⟩:=h;exact h
theorem kL.get {w:World} {a:Option Addr} {n c:Nat} {L:List Nat} (h:kL w (.slice a n c) L) (i:Nat) (hi:i<L.length):∃ b o,a=some ⟨b,o,none⟩/\w.rangeAt b (o+i*3) (iJ L[i]):=by
 obtain ⟨a',c',h1,_,_,_,h5⟩:=h;injection h1 with h1 h2 h3
 subst h1;exact h5 i hi
theorem sD (w:World):Ez w (.returned (.tuple #[.slice none 0 0,.slice none 0 0,iV 4])) none:=rfl
theorem Fh {gl:Nat} {v v':Value} {w0 w w':World} (hk:gO w0 w) (h:lh gl v v' w w') (h1:w0.heap.size<=gl) (h2:v.ownBlock=none):gO w0 w':=by
 refine ⟨h.os.trans hk.os,h.tape.trans hk.tape,h.output.trans hk.output,Nat.le_trans hk.size h.size,fun k hk'=>?_⟩;have:=hk.size;refine (h.block k (by omega) (by omega) (by rw [h2];simp)).trans (hk.block k hk')
theorem xL (v:Value) (f:Fm) (V T:Nat) (w:World) (hv:ii w v f.nodes) (aj:Ok f V T) (bM:jP f=0) (hs:kt V T f=true) :
  Calls Tryz.prog 77 #[.agg #[.int .i64 V,v,.int .i64 T]] w fun e w'=>Ez w' e (nc V T f.nodes)/\gO w w':=by
 have cu:Hid (∀ W,gO w W->Calls Tryz.prog 124 #[.agg #[.int .i64 V,v,.int .i64 T]] W fun e w'=>e=.returned (.tuple #[.bool true,.nilIface])/\gO W w'):=af fun W hk=>by
  have:=pj v f V T W (hv.kept hk) aj bM;rw [hs] at this;exact this
 have cw:=af (fun i (hi:i<f.nodes.length)=>vR hv i hi);have bN:=af aj;have cz:=af (fun i (hi:i<f.nodes.length) h=>mg aj hs i hi h);have cC:∃ a n c,v=.slice a n c:=by obtain ⟨a,c,h,_⟩:=hv;exact ⟨a,_,c,h⟩
 obtain ⟨a,n,c,rfl⟩:=cC;have bl:=aj.v24;have aM:=aj.n128;have cD:=aj.tlt;have aW:ie 152 (cond V (T:Int)):=lL (j' (V:=V) (m:=128) (by omega) bl) (by omega);have aB:=af (lQ.start aj)
 have aX:Hid (∀ W',Calls Tryz.prog 125 #[.agg #[.int .i64 0,.int .u64 0,.int .u64 0],.agg #[.int .i64 V,.slice a n c,.int .i64 T],.int .i64 T] W' fun e w'=>e=.returned (km (cond V (T:Int)))/\gO W' w'):=af fun W'=>by
  have:=pi (c:=0) (fun j hj=>by simp at hj) V (.slice a n c) T ⟨_,_,_,rfl⟩ bl (T:Int) (by omega) W';rw [show iv V 0 (T:Int)=cond V (T:Int) by unfold iv;simp] at this;exact this
 obtain ⟨c0,aN⟩:∃ c0,c0=cond V (T:Int):=⟨_,rfl⟩;obtain ⟨nl,bo⟩:∃ nl,nl=f.nodes.length:=⟨_,rfl⟩;rw [<-aN] at aW aB aX;rw [<-bo] at aB aM;have bO:=af bo;have cV:=af aW;obtain ⟨x0,bp⟩:∃ x,x=iM c0:=⟨_,rfl⟩;obtain ⟨x1,bq⟩:∃ x,x=jK c0:=⟨_,rfl⟩;obtain ⟨x2,br⟩:∃ x,x=jF c0:=⟨_,rfl⟩;have cE:Hid (∀ (W:World) (B:Nat),B<=W.heap.size->ix (W.alloc (.cells #[.int .i64 x0,.int .u64 x1,.int .u64 x2] 99)) B (.slice (some ⟨W.heap.size,0,none⟩) 1 1) [c0]):=af fun W B hB=>by rw [bp,bq,br];exact Ij W B c0 hB aW
 unfold km at aX;rw [<-bp,<-bq,<-br] at aX;clear hv aj bM hs aW aN bo bp bq br cD;go_enter Tryz.func77,Tryz.ntmps77;go_wp2_with (go_at_call 124;refine (cu.out _ ((gO.refl _).alloc _)).mono ?_;rintro e w1 ⟨rfl,aO⟩;have d0:=aO.cell (p:=⟨w.heap.size,0,none⟩) (v:=.int .i64 V) (by simp);have d1:=aO.cell (p:=⟨w.heap.size,1,none⟩) (v:=.slice a n c) (by simp);have d2:=aO.cell (p:=⟨w.heap.size,2,none⟩) (v:=.int .i64 T) (by simp);have bP:=af (((gO.refl _).alloc _).trans aO);clear aO);refine (aX.out _).mono ?_;rintro e w2 ⟨rfl,aP⟩;have d0':=aP.cell d0;have d1':=aP.cell d1;have d2':=aP.cell d2;have cF:=af (bP.out.trans aP)
 have cG:w.heap.size<w2.heap.size:=by
  by_cases h:w.heap.size<w2.heap.size
  ·exact h
  ·simp [World.cell?,Array.getElem?_eq_none (Nat.le_of_not_lt h)] at d0'
 clear d0 d1 d2 aP bP;go_wp2;obtain ⟨L1,bQ⟩:∃ L:World,L=w2.alloc (.cells #[.int .i64 x0,.int .u64 x1,.int .u64 x2] 99):=⟨_,rfl⟩;have aG:=af bQ;clear bQ;have e0:=(by rw [aG.out];exact ((gO.refl w2).alloc _).cell d0':L1.cell? ⟨w.heap.size,0,none⟩=some (.int .i64 V));have e1:=(by rw [aG.out];exact ((gO.refl w2).alloc _).cell d1':L1.cell? ⟨w.heap.size,1,none⟩=some (.slice a n c));have e2:=(by rw [aG.out];exact ((gO.refl w2).alloc _).cell d2':L1.cell? ⟨w.heap.size,2,none⟩=some (.int .i64 T));have aQ:Hid (gO w L1):=af (by rw [aG.out];exact cF.out.trans ((gO.refl w2).alloc _));clear d0' d1' d2';go_loopg [7,8] nl (fun kx s7 s8 wr=>∃ (L st:List Nat) (m:Nat) (vr vs:Value),s7=vr/\s8=vs/\m<=kx/\Hid (lQ V T f L st m/\st.length+m<=128)/\Hid (ix wr w2.heap.size vr L)/\Hid (OwnInts wr L1.heap.size vs (ib st))/\Hid (gO L1 wr))
 case atStart=>exact ⟨[c0],[],nl,_,_,rfl,rfl,Nat.le_refl _,af ⟨aB.out,by simpa using aM⟩,af (cE.out _ _ (Nat.le_refl _)),af (OwnInts.nil _ _),af (by rw [aG.out];exact gO.refl _)⟩
 case round =>
  obtain ⟨wo,rfl⟩:∃ wo:World,wo=wr:=⟨_,rfl⟩;obtain ⟨L,st,m,vr,vs,rfl,rfl,cW,aC,aR,bt,HK⟩:=hrel;obtain ⟨va,vc,bR⟩:=aR.out.at.shape;obtain ⟨ln,aY⟩:∃ ln,ln=L.length:=⟨_,rfl⟩;rw [<-aY] at bR;have cX:ln<=10000:=by rw [aY];exact aR.out.at.len
  subst bR;have bS:=af aY;have HG:=af (wZ _ L wo aR.out.at);have d0:=HK.out.cell e0;have d1:=HK.out.cell e1;have d2:=HK.out.cell e2;clear aY;go_wp2_with fail;refine HG.out.mono ?_;rintro e w3 ⟨⟨r,rfl,hg⟩,aD⟩;have bw:=af hg;have ar:=af aD;by_cases cZ:r<0
  ·clear hg aD d0 d1 d2;go_wp2;go_ret3;refine ⟨?_,aQ.out.trans (HK.out.trans ar.out)⟩;obtain ⟨R,hR,hp⟩:=aC.out.1.done fun c hc j hj=>by have:=bw.out.1 c hc j hj;omega
   rw [hR];exact ⟨_,_,L,rfl,(aR.out.kept ar.out).zero,hp,(bt.out.mono (Nat.zero_le _)).kept ar.out⟩
  ·obtain ⟨i,rfl,bT⟩:=hg.2.resolve_left (by omega);obtain ⟨c_,aS,_⟩:=aC.out.1.at bT fun c hc j hj=>by have:=hg.1 c hc j hj;omega
   have da:=aC.out.1.le;have aw:i<f.nodes.length:=by omega
   obtain ⟨b,o,n',c',ua,un,uc,bz,hn',aZ⟩:=cw.out i aw;injection bz with q1 q2 q3
   subst q1;rw [<-q2,<-bO.out] at hn';have hkd:=cz.out i aw aS;have aj:=bN.out;have bU:=aj.n128;have am:∀ a∈f.nodes[i].args,0<=a/\a<(V:Int)+128:=fun a ha=>by have:=aj.args i aw a ha;omega
   have bA:f.nodes[i].args.length<=16:=me (aj.argc i aw)
   have ai:f.nodes[i].kind=4->1<=f.nodes[i].k/\f.nodes[i].k<=f.nodes[i].args.length:=fun h4=>by
    have:=aj.arity i aw;unfold mF at this;rw [if_neg (by omega),if_pos h4] at this;split at this
    ·omega
    ·cases this
   have hx:f.nodes.getD i iZ=f.nodes[i]:=by simp [List.getD_eq_getElem?_getD,aw]
   obtain ⟨x,bV⟩:∃ x,x=f.nodes[i]:=⟨_,rfl⟩;rw [<-bV] at aZ hkd am bA ai hx;have HX:=af hx;have cH:i<n:=by rw [hn',bO.out];exact aw
   have ay:i<128:=by omega
   have a_:Hid (∀ W q u LL gl,gO w W->w.heap.size<=gl->gl<=W.heap.size->ListAt W gl gl u LL->LL.length<=4097->ie 152 q->Calls Tryz.prog 128 #[.pointer (some ⟨gl,0,none⟩),.agg #[.int .i64 V,.slice (some ⟨b,o,none⟩) n c,.int .i64 T],.agg #[.int .i64 (iM q),.int .u64 (jK q),.int .u64 (jF q)],.int .i64 i] W fun e w'=>e=.returned (.tuple #[])/\∃ v',ListAt w' gl gl v' ((LL++jB V x i q).take 4097)/\lh gl u v' W w'):=af fun W q u LL gl hk cI cJ hL hl hq =>
    Ao gl gl V i q b o n c T x ua un uc u LL W (Nat.le_refl _) bl cJ hL hl hq ay cH (aZ W hk).1 (fun w' hb=>(aZ w' (hk.app (hb.mono cI))).2) am bA hkd ai
   clear aZ hkd am bA ai hx bV aj aS q2 q3 hn' hg bT aw;have cK:=aD.size;have d0':=aD.cell d0;have d1':=aD.cell d1;have d2':=aD.cell d2;clear aD d0 d1 d2;go_wp2;obtain ⟨L3,bW⟩:∃ L:World,L=w3.alloc (.cells #[.slice none 0 0] 144):=⟨_,rfl⟩;have bX:=af bW;have bB:Hid (gO w3 L3):=af (by rw [bX.out];exact (gO.refl _).alloc _);clear bW;go_loopg [38] ln (fun kx s38 wr=>∃ (k:Nat) (vk:Value),s38=.int .i64 k/\k<=ln/\ln - k<=kx/\Hid (ListAt wr w3.heap.size w3.heap.size vk ((iP V x i (L.take k)).take 4097))/\Hid (lh w3.heap.size (.slice none 0 0) vk L3 wr))
   case atStart=>exact ⟨0,_,rfl,Nat.zero_le _,by omega,af ⟨gS.made w3 _ _,by simpa [iP] using ix.nil _ _⟩,af (by rw [bX.out];exact lh.of_kept (gO.refl _))⟩
   case round =>
    obtain ⟨k,vk,rfl,hk,db,aH,aI⟩:=hrel;have ah:gO w3 wr:=Fh bB.out aI.out (Nat.le_refl _) rfl;have bd:=af ah;have cL:=ah.size;by_cases dd:k<ln
    ·have bY:k<L.length:=by have:=bS.out;omega
     have al:=aR.out.at.kept (ar.out.trans ah);obtain ⟨b2,o2,rfl,aT⟩:=al.get k bY;have aJ:=al.lt L[k] (List.getElem_mem _);have ag:=rn V x i L k bY;obtain ⟨q,bC⟩:∃ q,q=L[k]:=⟨_,rfl⟩;rw [<-bC] at aT aJ ag;unfold wY at ag;have f0:=ah.cell d0';have f1:=ah.cell d1';have f2:=ah.cell d2';have ap:((iP V x i (L.take k)).take 4097).length<=4097:=by rw [List.length_take];omega
     have bD:Hid (∀ W,gO wr W->gO w W):=af fun W hk=>aQ.out.trans (HK.out.trans (ar.out.trans (ah.trans hk)))
     have aq:Hid (∀ W,Calls Tryz.prog 127 #[km q,.int .i64 i] W fun e w'=>e=.returned (.bool (q.testBit (24+i)))/\gO W w'):=af fun W=>Gu aJ i ay W
     unfold km at aq;have de:(k:Int)<(ln:Int):=by omega
     cases hq:q.testBit (24+i) with
     | true =>
      rw [hq] at ag aq;rw [if_pos rfl] at ag
      have bE:Hid (∀ W,gO wr W->Calls Tryz.prog 128 #[.pointer (some ⟨w3.heap.size,0,none⟩),.agg #[.int .i64 V,.slice (some ⟨b,o,none⟩) n c,.int .i64 T],.agg #[.int .i64 (iM q),.int .u64 (jK q),.int .u64 (jF q)],.int .i64 i] W fun e w'=>e=.returned (.tuple #[])/\∃ v',Hid (ListAt w' w3.heap.size w3.heap.size v' ((iP V x i (L.take (k+1))).take 4097))/\Hid (lh w3.heap.size (.slice none 0 0) v' L3 w')):=af fun W hk=>by
       have:=a_.out W q vk _ w3.heap.size (bD.out W hk) (by have:=aQ.out.size;have:=HK.out.size;omega) (by have:=hk.size;omega) (ListAt.kept aH.out hk) ap aJ;rw [rb,<-ag] at this;exact this.mono fun _ _ ⟨h1,v',h2,h3⟩=>⟨h1,v',af h2,af ((aI.out.trans (lh.of_kept hk)).trans h3)⟩
      have bF:Hid (wr.rangeAt b2 (o2+k*3) [.int .i64 (iM q),.int .u64 (jK q),.int .u64 (jF q)]):=af aT;generalize iM q=z0 at *;generalize jK q=z1 at *;generalize jF q=z2 at *;clear aT aJ ag bC al hq a_ d0' d1' d2' aH aI ah ap;go_wp2_with (first | (with_reducible refine wpList_load_mid rfl 99 _ rfl b2 (o2+k*3) rfl _ _ bF.out Tryz.underlying99 rfl (by kernel_rfl) ?_) | (go_at_call 127;refine (aq.out _).mono ?_;rintro e w4 ⟨rfl,ai⟩;have b0:=ai.cell (p:=⟨wr.heap.size,0,none⟩) (v:=.int .i64 z0) (by simp);have b1:=ai.cell (p:=⟨wr.heap.size,1,none⟩) (v:=.int .u64 z1) (by simp);have b2:=ai.cell (p:=⟨wr.heap.size,2,none⟩) (v:=.int .u64 z2) (by simp);have aK:=af (((gO.refl wr).alloc _).trans ai);have g0:=aK.out.cell f0;have g1:=aK.out.cell f1;have g2:=aK.out.cell f2;clear ai) | (go_at_call 128;refine (bE.out _ aK.out).mono ?_;rintro e w5 ⟨rfl,v',h3,h4⟩));go_roundg (ln - (k+1))
      case measure=>omega
      case rel=>exact ⟨k+1,v',by go_num,by omega,Nat.le_refl _,h3,h4⟩
     | false =>
      rw [hq] at ag aq;rw [if_neg (by simp)] at ag
      have bE:Hid (∀ W,gO wr W->Calls Tryz.prog 129 #[.pointer (some ⟨w3.heap.size,0,none⟩),.agg #[.int .i64 (iM q),.int .u64 (jK q),.int .u64 (jF q)]] W fun e w'=>e=.returned (.tuple #[])/\∃ v',Hid (ListAt w' w3.heap.size w3.heap.size v' ((iP V x i (L.take (k+1))).take 4097))/\Hid (lh w3.heap.size (.slice none 0 0) v' L3 w')):=af fun W hk=>by
       have:=qp w3.heap.size w3.heap.size q vk _ W (ListAt.kept aH.out hk) aJ ap (Nat.le_refl _);rw [oU ap,rb,<-ag] at this;exact this.mono fun _ _ ⟨h1,v',h2,h3⟩=>⟨h1,v',af h2,af ((aI.out.trans (lh.of_kept hk)).trans h3)⟩
      have bF:Hid (wr.rangeAt b2 (o2+k*3) [.int .i64 (iM q),.int .u64 (jK q),.int .u64 (jF q)]):=af aT;generalize iM q=z0 at *;generalize jK q=z1 at *;generalize jF q=z2 at *;clear aT aJ ag bC al hq a_ d0' d1' d2' aH aI ah ap;go_wp2_with (first | (with_reducible refine wpList_load_mid rfl 99 _ rfl b2 (o2+k*3) rfl _ _ bF.out Tryz.underlying99 rfl (by kernel_rfl) ?_) | (go_at_call 127;refine (aq.out _).mono ?_;rintro e w4 ⟨rfl,ai⟩;have b0:=ai.cell (p:=⟨wr.heap.size,0,none⟩) (v:=.int .i64 z0) (by simp);have b1:=ai.cell (p:=⟨wr.heap.size,1,none⟩) (v:=.int .u64 z1) (by simp);have b2:=ai.cell (p:=⟨wr.heap.size,2,none⟩) (v:=.int .u64 z2) (by simp);have aK:=af (((gO.refl wr).alloc _).trans ai);clear ai) | (go_at_call 129;refine (bE.out _ aK.out).mono ?_;rintro e w5 ⟨rfl,v',h3,h4⟩));go_roundg (ln - (k+1))
      case measure=>omega
      case rel=>exact ⟨k+1,v',by go_num,by omega,Nat.le_refl _,h3,h4⟩
    ·have bZ:k=ln:=by omega
     have bf:Hid (ListAt wr w3.heap.size w3.heap.size vk ((iP V x i L).take 4097)):=af (by have h:=aH.out;rw [bZ,bS.out,List.take_length] at h;exact h);have c0:=bf.out.1.cell (i:=0) (by simp);simp only [List.getElem_cons_zero] at c0;obtain ⟨vka,vkc,b_⟩:=bf.out.2.at.shape;obtain ⟨n2,bh⟩:∃ n2,n2=((iP V x i L).take 4097).length:=⟨_,rfl⟩;rw [<-bh] at b_;subst b_;have cd:=af bh;have cM:n2<=4097:=by rw [bh,List.length_take];omega
     have aL:Hid ((∃ c∈L,c.testBit (24+i)=true)/\∀ c∈L,∀ j,c.testBit (24+j)=true->j<=i):=af ⟨by
      rcases bw.out.2 with h | ⟨j,hj,hc⟩
      ·omega
      ·rw [show i=j by omega];exact hc,fun c hc j hj=>by have:=bw.out.1 c hc j hj;omega⟩
     clear bZ bh aH a_ aI;by_cases hbig:4096<n2
     ·have aU:(n2:Int) > 4096:=by omega
      go_wp2;go_ret3;refine ⟨?_,aQ.out.trans (HK.out.trans (ar.out.trans bd.out))⟩;rw [aC.out.1.full aL.out.1 aL.out.2 (by rw [HX.out];have:=cd.out;rw [List.length_take] at this;omega)];exact sD _
     ·have aU:¬ (n2:Int) > 4096:=by omega
      have az:(iP V x i L).length<=4096:=by have:=cd.out;rw [List.length_take] at this;omega
      have bG:=af (tC _ _ wr bf.out.2.at (by rw [List.length_take];omega));rw [List.take_of_length_le (by omega)] at bG;have cN:=af az;clear az bf;go_wp2_with fail;refine bG.out.mono ?_;rintro e w6 ⟨⟨v6,M,rfl,bi,ci⟩,bj⟩;have cj:=af bi;have ck:=af ci;have df:=af bj;obtain ⟨va6,vc6,cn⟩:=bi.at.shape;obtain ⟨n6,bk⟩:∃ n6,n6=M.length:=⟨_,rfl⟩;rw [<-bk] at cn;have cO:n6<=10000:=by rw [bk];exact bi.at.len
      subst cn;have bH:=af bk;have cq:Hid (gO wo w6):=af (ar.out.trans (bd.out.trans bj));have bI:Hid (gO L1 w6):=af (HK.out.trans cq.out);have cP:=bj.size;clear bk bi ci bj bG;by_cases aV:1024<n6
      ·have aF:(n6:Int) > 1024:=by omega
       go_wp2;go_ret3;refine ⟨?_,aQ.out.trans bI.out⟩;rw [aC.out.1.many (M:=M) aL.out.1 aL.out.2 (by rw [HX.out];exact ck.out) (by rw [<-bH.out];exact aV)];exact sD _
      ·have aF:¬ (n6:Int) > 1024:=by omega
       have cQ:=af (aC.out.1.next (M:=M) bN.out aL.out.1 aL.out.2 (by rw [HX.out];exact cN.out) (by rw [HX.out];exact ck.out) (by rw [<-bH.out];omega));have bJ:=af (bt.out.kept cq.out);have dg:=aC.out.2;have bK:(ib st).length=st.length:=by simp [ib]
       have cR:=bI.out.size;have bL:Hid (∀ g,u8.ownBlock=some g->g<wr.heap.size):=af fun g hg=>by have:=bt.out.own_lt hg;have:=(ar.out.trans bd.out).size;omega
       go_wp2_with (at_builtin;refine kp rfl _ _ rfl L1.heap.size _ (ib st) rfl (bJ.out.kept ((gO.refl _).alloc _)) _ (n6:Int) rfl (by simp) (by rw [bK];omega) (by simp;omega) ?_;intro v7 w7 aA cr ct;have O7:=af aA;have cS:=af ct;have cU:=af cr;clear aA ct cr);go_roundg i
       case measure=>omega
       case rel =>
        refine ⟨M,st++[n6],i,_,v7,rfl,rfl,Nat.le_refl _,af ⟨by have:=cQ.out;rw [<-bH.out] at this;exact this,by simp;omega⟩,af ?_,af ?_,af ?_⟩
        ·refine ((cj.out.kept ((gO.refl _).alloc _)).grown cU.out fun g hg e=>?_).mono (by have h1:=HK.out.size;have h2:=bd.out.size;have h3:=ar.out.size;have h4:L1.heap.size=w2.heap.size+1:=(by rw [aG.out];simp);omega);have h1:=(cj.out.own_ge hg).1;have h2:=bL.out g e.symm;omega
        ·have:=O7.out;simpa [ib] using this
        ·exact (bI.out.alloc _).app cS.out
theorem EE (n:Nat):0<n->n &&& (n - 1)<n/\pc n=pc (n &&& (n - 1))+1:=by
 induction n using Nat.strongRecOn with
 | ind n ih =>
  intro h0;have bits:∀ a b:Nat,a=b ↔ a % 2=b % 2/\a / 2=b / 2:=fun a b=>by omega
  by_cases h:n % 2=1
  ·have e:n &&& (n - 1)=n - 1:=by
    rw [bits]
    have e1:(n &&& (n - 1)) % 2=0:=by
     rw [show (2:Nat)=2^1 from rfl,Nat.and_mod_two_pow,show (n - 1) % 2^1=0 by omega];simp
    have e2:(n &&& (n - 1)) / 2=n / 2:=by
     rw [show (2:Nat)=2^1 from rfl,Nat.and_div_two_pow,show (n - 1) / 2^1=n / 2^1 by omega,Nat.and_self]
    omega
   rw [e];refine ⟨by omega,?_⟩;rw [j_ n,j_ (n - 1),show (n - 1) / 2=n / 2 by omega];omega
  ·have h2:=ih (n / 2) (by omega) (by omega)
   have e1:(n &&& (n - 1)) % 2=0:=by
    rw [show (2:Nat)=2^1 from rfl,Nat.and_mod_two_pow,show n % 2^1=0 by omega];simp
   have e2:(n &&& (n - 1)) / 2=n / 2 &&& (n / 2 - 1):=by
    rw [show (2:Nat)=2^1 from rfl,Nat.and_div_two_pow,show (n - 1) / 2^1=n / 2^1 - 1 by omega]
   refine ⟨by omega,?_⟩;rw [j_ n,j_ (n &&& (n - 1)),e1,e2];omega
theorem uf {n:Nat} (h:Mk n) (w:World):Calls Tryz.prog 230 #[.int .i64 n] w fun e w'=>e=.returned (.int .i64 n)/\w=w':=by
 have hc:=Ak h;go_enter Tryz.func230,Tryz.ntmps230;go_wp2;go_ret;exact ⟨rfl,rfl⟩
theorem qk (s:Int) (w:World):Calls Tryz.prog 222 #[.int .i64 s] w fun e w'=>e=.returned (.bool (decide (0<=s/\s<=16777215)))/\w=w':=by
 by_cases h:0<=s
 ·by_cases h2:s<16777216
  all_goals
   go_enter Tryz.func222,Tryz.ntmps222;go_wp2;go_ret;exact ⟨by congr 2;simp;omega,rfl⟩
 ·go_enter Tryz.func222,Tryz.ntmps222;go_wp2;go_ret;exact ⟨by congr 2;simp;omega,rfl⟩
theorem ue {n:Nat} (h:Mk n) (w:World):Calls Tryz.prog 231 #[.int .i64 n] w fun e w'=>e=.returned (.int .i64 (pc n))/\w=w':=by
 obtain ⟨r,hr⟩:∃ r,r=pc n:=⟨_,rfl⟩;rw [<-hr];have HR:=af hr;have h':=h;clear hr;go_enter Tryz.func231,Tryz.ntmps231;go_wp2_with (go_at_call 230;refine (uf h' _).mono ?_;rintro e w' ⟨rfl,rfl⟩);go_loop [0,3] (fun s k=>∃ m q:Nat,s=.int .i64 m/\k=.int .i64 q/\m<16777216/\q<=16777216 - m/\Hid (pc m+q=r)) (fun s _=>(intOf s).toNat)
 case atStart=>exact ⟨n,0,rfl,rfl,h,by omega,af (by rw [HR.out];rfl)⟩
 case round =>
  obtain ⟨m,q,rfl,rfl,hm,hq,HI⟩:=hrel;by_cases h0:0<m
  ·have hp:=EE m h0
   have e1:bits .and .i64 (m:Int) ((m:Int) - 1)=((m &&& (m - 1):Nat):Int):=by
    rw [show (m:Int) - 1=((m - 1:Nat):Int) by omega];exact oV _ _ (by omega) (by omega)
   have ai:((m:Int) == 0)=false:=by simp;omega
   have ag:((m:Int) != 0)=true:=by simp;omega
   have HP:=af hp;clear hp;go_wp2;go_round
   case rel=>exact ⟨m &&& (m - 1),q+1,rfl,by go_num,by have:=HP.out;omega,by have:=HP.out;omega,af (by have:=HP.out;have:=HI.out;omega)⟩
   case measure=>have:=HP.out;simp [intOf];omega
  ·obtain rfl:m=0:=by omega
   go_wp2;go_ret;have ah:q=r:=by have:=HI.out;rw [nS] at this;omega
   exact ⟨by rw [ah];rfl,rfl⟩
def rh (a b:Nat):Int:=if a=b then 0 else if lI a b then -1 else 1
theorem xx {a b:Nat} (ha:Mk a) (hb:Mk b) (w:World):Calls Tryz.prog 170 #[.int .i64 a,.int .i64 b] w fun e w'=>e=.returned (.int .i64 (rh a b))/\w=w':=by
 obtain ⟨r,hr⟩:∃ r,r=rh a b:=⟨_,rfl⟩;rw [<-hr];obtain ⟨x,hx⟩:∃ x,x=pc a:=⟨_,rfl⟩;obtain ⟨y,hy⟩:∃ x,x=pc b:=⟨_,rfl⟩;have HR:=af hr;have HA:Hid (∀ W,Calls Tryz.prog 231 #[.int .i64 a] W fun e w'=>e=.returned (.int .i64 x)/\W=w'):=af (hx ▸ fun W=>ue ha W);have HB:Hid (∀ W,Calls Tryz.prog 231 #[.int .i64 b] W fun e w'=>e=.returned (.int .i64 y)/\W=w'):=af (hy ▸ fun W=>ue hb W);have CA:Hid (∀ W,Calls Tryz.prog 230 #[.int .i64 a] W fun e w'=>e=.returned (.int .i64 a)/\W=w'):=af fun W=>uf ha W
 have CB:Hid (∀ W,Calls Tryz.prog 230 #[.int .i64 b] W fun e w'=>e=.returned (.int .i64 b)/\W=w'):=af fun W=>uf hb W
 have HX:=af hx;have HY:=af hy;clear hr hx hy ha hb;by_cases e:a=b
 ·have h0:r=0:=by rw [HR.out,rh,if_pos e]
  subst h0;have ee:((a:Int) == (b:Int))=true:=by simp;omega
  clear HX HY;clear e;go_enter Tryz.func170,Tryz.ntmps170
  go_wp2_with (first
   | (go_at_call_of 230 (Value.int .i64 (a:Int));refine (CA.out _).mono ?_;rintro e w' ⟨rfl,rfl⟩)
   | (go_at_call_of 230 (Value.int .i64 (b:Int));refine (CB.out _).mono ?_;rintro e w' ⟨rfl,rfl⟩))
  go_ret;exact ⟨rfl,rfl⟩
 ·have ee:((a:Int) == (b:Int))=false:=by simp;omega
  have HE:=af e;clear e;by_cases h1:x<y
  ·have h0:r=-1:=by rw [HR.out,rh,if_neg HE.out,if_pos (.inl (by rw [<-HX.out,<-HY.out];exact h1))]
   subst h0;have h1':(x:Int)<(y:Int):=by omega
   go_enter Tryz.func170,Tryz.ntmps170
   go_wp2_with (first
    | (go_at_call_of 230 (Value.int .i64 (a:Int));refine (CA.out _).mono ?_;rintro e w' ⟨rfl,rfl⟩)
    | (go_at_call_of 230 (Value.int .i64 (b:Int));refine (CB.out _).mono ?_;rintro e w' ⟨rfl,rfl⟩)
    | (go_at_call_of 231 (Value.int .i64 (a:Int));refine (HA.out _).mono ?_;rintro e w' ⟨rfl,rfl⟩)
    | (go_at_call_of 231 (Value.int .i64 (b:Int));refine (HB.out _).mono ?_;rintro e w' ⟨rfl,rfl⟩))
   go_ret;exact ⟨rfl,rfl⟩
  ·have h1':¬ (x:Int)<(y:Int):=by omega
   by_cases h2:x=y
   ·have h2':((x:Int) == (y:Int))=true:=by simp;omega
    by_cases h3:a<b
    ·have h0:r=-1:=by rw [HR.out,rh,if_neg HE.out,if_pos (.inr ⟨by rw [<-HX.out,<-HY.out];exact h2,h3⟩)]
     subst h0;have h3':(a:Int)<(b:Int):=by omega
     clear HX HY h1;clear h2;go_enter Tryz.func170,Tryz.ntmps170
     go_wp2_with (first
      | (go_at_call_of 230 (Value.int .i64 (a:Int));refine (CA.out _).mono ?_;rintro e w' ⟨rfl,rfl⟩)
      | (go_at_call_of 230 (Value.int .i64 (b:Int));refine (CB.out _).mono ?_;rintro e w' ⟨rfl,rfl⟩)
      | (go_at_call_of 231 (Value.int .i64 (a:Int));refine (HA.out _).mono ?_;rintro e w' ⟨rfl,rfl⟩)
      | (go_at_call_of 231 (Value.int .i64 (b:Int));refine (HB.out _).mono ?_;rintro e w' ⟨rfl,rfl⟩))
     go_ret;exact ⟨rfl,rfl⟩
    ·have h0:r=1:=by
      rw [HR.out,rh,if_neg HE.out,if_neg];rintro (h | h)
      ·rw [<-HX.out,<-HY.out] at h;exact h1 h
      ·exact h3 h.2
     subst h0;have h3':¬ (a:Int)<(b:Int):=by omega
     clear HX HY h1;clear h2;go_enter Tryz.func170,Tryz.ntmps170
     go_wp2_with (first
      | (go_at_call_of 230 (Value.int .i64 (a:Int));refine (CA.out _).mono ?_;rintro e w' ⟨rfl,rfl⟩)
      | (go_at_call_of 230 (Value.int .i64 (b:Int));refine (CB.out _).mono ?_;rintro e w' ⟨rfl,rfl⟩)
      | (go_at_call_of 231 (Value.int .i64 (a:Int));refine (HA.out _).mono ?_;rintro e w' ⟨rfl,rfl⟩)
      | (go_at_call_of 231 (Value.int .i64 (b:Int));refine (HB.out _).mono ?_;rintro e w' ⟨rfl,rfl⟩))
     go_ret;exact ⟨rfl,rfl⟩
   ·have h2':((x:Int) == (y:Int))=false:=by simp;omega
    have h0:r=1:=by
     rw [HR.out,rh,if_neg HE.out,if_neg];rintro (h | h)
     ·rw [<-HX.out,<-HY.out] at h;exact h1 h
     ·rw [<-HX.out,<-HY.out] at h;exact h2 h.1
    subst h0;clear HX HY h1;clear h2;go_enter Tryz.func170,Tryz.ntmps170
    go_wp2_with (first
     | (go_at_call_of 230 (Value.int .i64 (a:Int));refine (CA.out _).mono ?_;rintro e w' ⟨rfl,rfl⟩)
     | (go_at_call_of 230 (Value.int .i64 (b:Int));refine (CB.out _).mono ?_;rintro e w' ⟨rfl,rfl⟩)
     | (go_at_call_of 231 (Value.int .i64 (a:Int));refine (HA.out _).mono ?_;rintro e w' ⟨rfl,rfl⟩)
     | (go_at_call_of 231 (Value.int .i64 (b:Int));refine (HB.out _).mono ?_;rintro e w' ⟨rfl,rfl⟩))
    go_ret;exact ⟨rfl,rfl⟩
theorem gU.take {w:World} {a:Option Addr} {c:Nat} {xs:List Int} (h:gU w (.slice a xs.length c) xs) (k:Nat) (hk:k<=xs.length):gU w (.slice a k c) (xs.take k):=by
 obtain ⟨a',c',h1,⟨h0,hn⟩,h2,h3⟩:=h;cases h1;refine ⟨a,c,by simp [Nat.min_eq_left hk],⟨by simp;omega,hn⟩,by simp;omega,fun i hi=>?_⟩;simp only [List.length_take] at hi;obtain ⟨b,o,h4,h5⟩:=h3 i (by omega);exact ⟨b,o,h4,by simpa using h5⟩
theorem gU.drop {w:World} {b o c:Nat} {xs:List Int} (h:gU w (.slice (some ⟨b,o,none⟩) xs.length c) xs) (k:Nat) (hk:k<=xs.length):gU w (.slice (some ⟨b,o+k,none⟩) (xs.length - k) (c - k)) (xs.drop k):=by
 obtain ⟨a',c',h1,⟨h0,hn⟩,h2,h3⟩:=h;cases h1;refine ⟨some ⟨b,o+k,none⟩,c - k,by simp,⟨by simp;omega,fun h=>by cases h⟩,by simp;omega,fun i hi=>?_⟩;simp only [List.length_drop] at hi;obtain ⟨b',o',h4,h5⟩:=h3 (k+i) (by omega);cases h4;exact ⟨b,o+k,rfl,by simpa [Nat.add_assoc] using h5⟩
theorem gZ.take {w:World} {a:Option Addr} {c:Nat} {ns:List Nat} (h:gZ w (.slice a ns.length c) ns) (k:Nat) (hk:k<=ns.length):gZ w (.slice a k c) (ns.take k):=by
 refine ⟨?_,fun n hn=>h.2 n (List.mem_of_mem_take hn)⟩;have:=gU.take (xs:=ib ns) (by simpa using h.1) k (by simpa using hk);simpa [ib,List.map_take] using this
theorem gZ.drop {w:World} {b o c:Nat} {ns:List Nat} (h:gZ w (.slice (some ⟨b,o,none⟩) ns.length c) ns) (k:Nat) (hk:k<=ns.length):gZ w (.slice (some ⟨b,o+k,none⟩) (ns.length - k) (c - k)) (ns.drop k):=by
 refine ⟨?_,fun n hn=>h.2 n (List.mem_of_mem_drop hn)⟩;have:=gU.drop (xs:=ib ns) (by simpa using h.1) k (by simpa using hk);simpa [ib,List.map_drop] using this
theorem gZ.shape {w:World} {v:Value} {ns:List Nat} (h:gZ w v ns):∃ a c,v=.slice a ns.length c/\ns.length<=c/\(ns≠[]->∃ b o,a=some ⟨b,o,none⟩):=by
 obtain ⟨⟨a,c,h1,⟨h0,_⟩,_,h3⟩,_⟩:=h;refine ⟨a,c,by simpa using h1,by simpa using h0,fun ag=>?_⟩
 have:0<(ib ns).length:=by simpa using List.length_pos_iff.2 ag
 obtain ⟨b,o,h4,_⟩:=h3 0 this;exact ⟨b,o,h4⟩
def Ft:Value->Nat | .slice _ n _=>n | _=>0
structure mE (ns zs xs ys:List Nat):Prop where
 left:(zs++xs).Pairwise lI
 right:(zs++ys).Pairwise lI
 mem:∀ z,z∈ns ↔ z∈zs\/z∈xs\/z∈ys
 len:zs.length+xs.length+ys.length<=ns.length
theorem mE.start (ns:List Nat) (h:Nat):mE ns [] (iA (ns.take h)) (iA (ns.drop h)):=by
 refine ⟨by simpa using jZ _,by simpa using jZ _,fun z=>?_,?_⟩
 ·rw [jG,jG];have:=List.mem_append (a:=z) (s:=ns.take h) (t:=ns.drop h);rw [List.take_append_drop] at this;simpa using this
 ·have h1:=nu (ns.take h);have h2:=nu (ns.drop h);simp at h1 h2⊢;omega
theorem mE.eq {ns zs xs ys:List Nat} {x:Nat} (h:mE ns zs (x :: xs) (x :: ys)):mE ns (zs++[x]) xs ys :=
 ⟨by simpa using h.left,by simpa using h.right,fun z=>by rw [h.mem];simp only [List.mem_append,List.mem_cons,List.not_mem_nil];grind,by have:=h.len;simp at this⊢;omega⟩
theorem mE.lt {ns zs xs ys:List Nat} {x y:Nat} (h:mE ns zs (x :: xs) (y :: ys)) (hl:lI x y):mE ns (zs++[x]) xs (y :: ys):=by
 refine ⟨by simpa using h.left,?_,fun z=>by rw [h.mem];simp only [List.mem_append,List.mem_cons,List.not_mem_nil];grind,by have:=h.len;simp at this⊢;omega⟩;have h1:=List.pairwise_append.1 h.left;have h2:=List.pairwise_append.1 h.right;rw [List.pairwise_append];refine ⟨?_,h2.2.1,?_⟩
 ·rw [List.pairwise_append];exact ⟨h1.1,by simp,fun a ha b hb=>by simp at hb;subst hb;exact h1.2.2 a ha b (List.mem_cons_self ..)⟩
 ·intro a ha b hb;rcases List.mem_append.1 ha with ha | ha
  ·exact h2.2.2 a ha b hb
  ·simp at ha;subst ha;rcases List.mem_cons.1 hb with e | e
   ·rw [e];exact hl
   ·exact mY _ _ _ hl ((List.pairwise_cons.1 h2.2.1).1 b e)
theorem mE.symm {ns zs xs ys:List Nat} (h:mE ns zs xs ys):mE ns zs ys xs :=
 ⟨h.right,h.left,fun z=>by rw [h.mem];constructor <;> (intro h;rcases h with h | h | h <;> simp_all),by have:=h.len;omega⟩
theorem mE.gt {ns zs xs ys:List Nat} {x y:Nat} (h:mE ns zs (x :: xs) (y :: ys)) (hl:lI y x):mE ns (zs++[y]) (x :: xs) ys:=(h.symm.lt hl).symm
theorem mE.doneL {ns zs ys:List Nat} (h:mE ns zs [] ys):zs++[]++ys=iA ns:=by
 rw [List.append_nil];exact mb ns _ h.right fun x=>by rw [h.mem];simp
theorem mE.doneR {ns zs xs:List Nat} (h:mE ns zs xs []):zs++xs++[]=iA ns:=by
 rw [List.append_nil];exact mb ns _ h.left fun x=>by rw [h.mem];simp
theorem mE.masks {ns zs xs ys:List Nat} (h:mE ns zs xs ys) (hm:∀ n∈ns,Mk n):(∀ n∈zs,Mk n)/\(∀ n∈xs,Mk n)/\∀ n∈ys,Mk n :=
 ⟨fun n hn=>hm n ((h.mem n).2 (.inl hn)),fun n hn=>hm n ((h.mem n).2 (.inr (.inl hn))),fun n hn=>hm n ((h.mem n).2 (.inr (.inr hn)))⟩
abbrev IX (b o n c:Nat):Value:=.slice (if c=1 then some ⟨b,o,none⟩ else some ⟨b,o+1,none⟩) n (c - 1)
theorem gZ.rest {w:World} {b o c:Nat} {x:Nat} {xs:List Nat} (h:gZ w (.slice (some ⟨b,o,none⟩) (xs.length+1) c) (x :: xs)):gZ w (IX b o xs.length c) xs:=by
 have h1:=gZ.drop (ns:=x :: xs) h 1 (by simp);unfold IX;obtain ⟨a',c',h2,h3,_⟩:=h.shape;cases h2;by_cases hc:c=1
 ·rw [if_pos hc]
  have:xs=[]:=List.eq_nil_of_length_eq_zero (by simp at h3;omega)
  subst this;subst hc;exact ⟨⟨_,0,rfl,⟨by simp,fun h=>by cases h⟩,by simp,fun i hi=>by simp at hi⟩,by simp⟩
 ·rw [if_neg hc];simpa using h1
theorem gZ.head {w:World} {b o c m:Nat} {x:Nat} {xs:List Nat} (h:gZ w (.slice (some ⟨b,o,none⟩) m c) (x :: xs)):w.cell? ⟨b,o,none⟩=some (.int .i64 x):=by
 obtain ⟨⟨a',c',h2,_,_,h3⟩,_⟩:=h;obtain ⟨b',o',h4,h5⟩:=h3 0 (by simp);cases h2;cases h4;simpa using h5
theorem xR {ns:List Nat} (h:ns.length<2):iA ns=ns:=by
 match ns,h with
 | [],_=>rfl
 | [x],_=>rfl
theorem vU (w:World) (B:Nat) (hB:B<=w.heap.size):OwnInts (w.alloc (.cells #[] 3)) B (.slice (some ⟨w.heap.size,0,none⟩) 0 0) [] :=
 ⟨⟨by simp,.inr ⟨w.heap.size,0,#[],rfl,hB,heap_alloc_new w _,Nat.le_refl _,by unfold maxLen;omega,by simp,by simp⟩⟩,by simp⟩
theorem rM:∀ (k:Nat) (ns:List Nat) (v:Value) (w:World),ns.length<=k->gZ w v ns->ns.length<=8796093022208 ->
  Calls Tryz.prog 107 #[v] w fun e w'=>(∃ v',e=.returned v'/\hC w' 0 v' (iA ns))/\gO w w':=by
 intro k;induction k using Nat.strongRecOn with
 | ind k ih =>
  intro ns v w hk hv hl;obtain ⟨a,c,rfl,hc,aH⟩:=hv.shape;by_cases h2:ns.length<2
  ·have h2':(ns.length:Int)<2:=by omega
   have HV:=af hv;have HS:=af (xR h2);clear ih aH hv h2;go_enter Tryz.func107,Tryz.ntmps107;go_wp2_with (at_builtin;refine lR rfl _ _ rfl w.heap.size _ [] rfl (vU w _ (Nat.le_refl _)) _ (ib ns) rfl (HV.out.1.kept ((gO.refl _).alloc _)) (by simp;omega) (by simp) ?_;intro v7 w7 ag _ ah;have O7:=af ag;have al:=af ah;clear ag ah);go_ret;exact ⟨⟨_,rfl,⟨by rw [HS.out];simpa using O7.out.mono (Nat.zero_le _),by rw [HS.out];exact HV.out.2⟩⟩,((gO.refl _).alloc _).app al.out⟩
  ·obtain ⟨b,o,rfl⟩:=aH (fun e=>by subst e;simp at h2);obtain ⟨h,hh⟩:∃ h,h=ns.length / 2:=⟨_,rfl⟩;have hT:=hv.take h (by omega);have hD:=hv.drop h (by omega);obtain ⟨n,hn⟩:∃ n,n=ns.length:=⟨_,rfl⟩;rw [<-hn] at hk hl hc h2 hD hh⊢;have aI:=af ih;have HT:=af hT;have HD:=af hD;have HN:=af hn;have aJ:=af hv.2
   have HL:Hid (∀ W,gO w W->Calls Tryz.prog 107 #[.slice (some ⟨b,o,none⟩) h c] W fun e w'=>(∃ v',e=.returned v'/\hC w' 0 v' (iA (ns.take h)))/\gO W w') :=
    af fun W hW=>aI.out h (by omega) (ns.take h) _ W (by simp;omega) (HT.out.kept hW) (by simp;omega)
   have HR:Hid (∀ W,gO w W->Calls Tryz.prog 107 #[.slice (some ⟨b,o+h,none⟩) (n - h) (c - h)] W fun e w'=>(∃ v',e=.returned v'/\hC w' 0 v' (iA (ns.drop h)))/\gO W w') :=
    af fun W hW=>aI.out (n - h) (by omega) (ns.drop h) _ W (by have:=HN.out;simp;omega) (HD.out.kept hW) (by have:=HN.out;simp;omega)
   have aR:Int.tdiv (n:Int) 2=(h:Int):=by rw [Int.tdiv_eq_ediv_of_nonneg (by omega)];omega
   have aS:(n:Int) / 2=(h:Int):=by omega
   have aT:IntKind.i64.wrap (h:Int)=(h:Int):=by rw [IntKind.wrap_i64];omega
   have aU:(0:Int)<=(h:Int):=by omega
   have aV:(h:Int)<=(n:Int):=by omega
   have aW:(h:Int)<=(c:Int):=by omega
   have aX:(n:Int)<=(c:Int):=by omega
   have h2':¬ (n:Int)<2:=by omega
   have aY:h≠c:=by omega
   clear hT hD hn hv ih aH hh h2;go_enter Tryz.func107,Tryz.ntmps107;go_upto_region 3 with fail
   go_cut [3,4] (fun va vb wx=>gZ wx va (iA (ns.take h))/\gZ wx vb (iA (ns.drop h))/\gO w wx)
   case first =>
    go_region_held3 (fun _=>True) (trivial)
     (first
      | (go_at_call_of 107 (Value.slice (some ⟨b,o,none⟩) h c);refine (HL.out _ (by first | exact (gO.refl _).drew | exact (gO.refl _).drew.trans aK)).mono ?_;rintro e w5 ⟨⟨va,rfl,aZ⟩,aO⟩)
      | (go_at_call 107;refine (HR.out _ (by first | exact (gO.refl _).drew | exact (gO.refl _).drew.trans aO)).mono ?_;rintro e w6 ⟨⟨vb,rfl,a_⟩,aK⟩))
    all_goals (go_wp2_with fail;go_meet;exact ⟨aZ.sets.kept aK,a_.sets,((gO.refl _).drew.trans aO).trans aK⟩)
   case rest =>
    obtain ⟨hA,hB,hK⟩:=hcut;have HA:=af hA;have HB:=af hB;have HK:=af hK;clear hA hB hK;clear aR aS aT aU aV aW aX aY aI HT HD HL HR hk;go_wp2_with fail;obtain ⟨wo,rfl⟩:∃ wo:World,wo=wc:=⟨_,rfl⟩;go_loopw [3,4,5,6] (fun va vb vo _ wr=>∃ (xs ys zs:List Nat),Hid (gZ wo va xs/\gZ wo vb ys/\mE ns zs xs ys)/\OwnInts wr wo.heap.size vo (ib zs)/\gO wo wr) (fun va vb _ _ _=>Ft va+Ft vb)
    case atStart=>exact ⟨_,_,[],af ⟨HA.out,HB.out,mE.start ns h⟩,OwnInts.nil _ _,gO.refl _⟩
    case round =>
     obtain ⟨xs,ys,zs,HI,hO,aL⟩:=hrel;have HO:=af hO;have ap:=af aL;have ar:=HI.out.2.2.len;rw [<-HN.out] at ar;have aP:=HI.out.2.2.masks (fun m hm=>aJ.out m hm);have HM:=af aP;have hsz:=aL.size;clear hO aL aP
     match xs,ys with
     | [],ys =>
      have am:=af HI.out.1;have aq:=af HI.out.2.1;have ay:=af HI.out.2.2;clear HI HM;obtain ⟨aa,ca,rfl,aD,aA⟩:=am.out.shape;obtain ⟨ab,cb,rfl,aG,aB⟩:=aq.out.shape;simp only [List.length_nil] at am aD ar⊢;clear aA aB
      go_wp2_with (first
       | (at_builtin;refine lR rfl _ _ rfl wo.heap.size _ (ib zs) rfl HO.out _ (ib []) rfl (am.out.1.kept ap.out) (by simp;omega) hsz ?_;intro v7 w7 ag _ ah;have O7:=af ag;have al:=af ah;clear ag ah)
       | (at_builtin;refine lR rfl _ _ rfl wo.heap.size _ (ib zs++ib []) rfl O7.out _ (ib ys) rfl (aq.out.1.kept (ap.out.app al.out)) (by simp;omega) (by have:=(ap.out.app al.out).size;omega) ?_;intro v8 w8 ai _ aF;have O8:=af ai;have aM:=af aF;clear ai aF))
      go_ret;refine ⟨⟨_,rfl,⟨?_,fun z hz=>aJ.out z ((jG ns z).1 hz)⟩⟩,HK.out.trans ((ap.out.app al.out).app aM.out)⟩;have:=O8.out;rw [<-List.map_append,<-List.map_append,ay.out.doneL] at this;exact this.mono (Nat.zero_le _)
     | x :: xs,[] =>
      have am:=af HI.out.1;have aq:=af HI.out.2.1;have ay:=af HI.out.2.2;clear HI HM;obtain ⟨aa,ca,rfl,aD,aA⟩:=am.out.shape;obtain ⟨ab,cb,rfl,aG,aB⟩:=aq.out.shape;simp only [List.length_nil,List.length_cons] at am aq aD aG ar⊢;have bd:(0:Int)<((xs.length+1:Nat):Int):=by omega
      clear aA aB
      go_wp2_with (first
       | (at_builtin;refine lR rfl _ _ rfl wo.heap.size _ (ib zs) rfl HO.out _ (ib (x :: xs)) rfl (am.out.1.kept ap.out) (by simp;omega) hsz ?_;intro v7 w7 ag _ ah;have O7:=af ag;have al:=af ah;clear ag ah)
       | (at_builtin;refine lR rfl _ _ rfl wo.heap.size _ (ib zs++ib (x :: xs)) rfl O7.out _ (ib []) rfl (aq.out.1.kept (ap.out.app al.out)) (by simp;omega) (by have:=(ap.out.app al.out).size;omega) ?_;intro v8 w8 ai _ aF;have O8:=af ai;have aM:=af aF;clear ai aF))
      go_ret;refine ⟨⟨_,rfl,⟨?_,fun z hz=>aJ.out z ((jG ns z).1 hz)⟩⟩,HK.out.trans ((ap.out.app al.out).app aM.out)⟩;have:=O8.out;rw [<-List.map_append,<-List.map_append,ay.out.doneR] at this;exact this.mono (Nat.zero_le _)
     | x :: xs,y :: ys =>
      have am:=af HI.out.1;have aq:=af HI.out.2.1;have ay:=af HI.out.2.2;have mx:Mk x:=HM.out.2.1 x (List.mem_cons_self ..);have my:Mk y:=HM.out.2.2 y (List.mem_cons_self ..);clear HI HM;obtain ⟨aa,ca,rfl,aD,aA⟩:=am.out.shape;obtain ⟨ab,cb,rfl,aG,aB⟩:=aq.out.shape;obtain ⟨ba,oa,rfl⟩:=aA (by simp);obtain ⟨bb,ob,rfl⟩:=aB (by simp);simp only [List.length_cons] at am aq aD aG ar⊢;have c1:=ap.out.cell am.out.head;have c2:=ap.out.cell aq.out.head;clear aA aB;have bd:(0:Int)<((xs.length+1:Nat):Int):=by omega
      have bf:(0:Int)<((ys.length+1:Nat):Int):=by omega
      have bh:(1:Int)<=((xs.length+1:Nat):Int):=by omega
      have bi:(1:Int)<=((ys.length+1:Nat):Int):=by omega
      have bj:(1:Int)<=(ca:Int):=by omega
      have bk:(1:Int)<=(cb:Int):=by omega
      have hcmp:∀ W,Calls Tryz.prog 170 #[.int .i64 x,.int .i64 y] W fun e w'=>e=.returned (.int .i64 (rh x y))/\w'=W:=fun W=>(xx mx my W).mono fun _ _ ⟨h1,h2⟩=>⟨h1,h2.symm⟩
      by_cases az:x=y
      ·rw [show rh x y=0 from if_pos az] at hcmp;subst az;have HC:=af hcmp;clear hcmp;go_wp2_with fail;go_quiet ((go_at_call 170;exact Calls.quiet_of_same (HC.out _)));generalize aw:World.drewN wr _=wq;have aj:Hid (gO wr wq):=af (by rw [<-aw];exact (gO.refl _).drewN _);have aQ:wo.heap.size<=wq.heap.size:=by have:=aj.out.size;omega
       have d1:=aj.out.cell c1;have d2:=aj.out.cell c2;clear aw c1 c2;go_wp2_with (at_builtin;refine kp rfl _ _ rfl wo.heap.size _ (ib zs) rfl (HO.out.kept (aj.out.alloc _)) _ (x:Int) rfl (by simp) (by simp;omega) (by simp;omega) ?_;intro v7 w7 ag _ ah;have O7:=af ag;have al:=af ah;clear ag ah);go_roundw
       case rel=>exact ⟨xs,ys,zs++[x],af ⟨am.out.rest,aq.out.rest,ay.out.eq⟩,by simpa [ib] using O7.out,((ap.out.trans (aj.out.alloc _)).app al.out)⟩
       case measure=>simp [Ft];try omega
      ·by_cases aC:lI x y
       ·rw [show rh x y=-1 by unfold rh;rw [if_neg az,if_pos aC]] at hcmp;have HC:=af hcmp;have aN:=af aC;clear hcmp aC az;go_wp2_with fail;go_quiet ((go_at_call 170;exact Calls.quiet_of_same (HC.out _)));generalize aw:World.drewN wr _=wq;have aj:Hid (gO wr wq):=af (by rw [<-aw];exact (gO.refl _).drewN _);have aQ:wo.heap.size<=wq.heap.size:=by have:=aj.out.size;omega
        have d1:=aj.out.cell c1;have d2:=aj.out.cell c2;clear aw c1 c2;go_wp2_with (at_builtin;refine kp rfl _ _ rfl wo.heap.size _ (ib zs) rfl (HO.out.kept (aj.out.alloc _)) _ (x:Int) rfl (by simp) (by simp;omega) (by simp;omega) ?_;intro v7 w7 ag _ ah;have O7:=af ag;have al:=af ah;clear ag ah);go_roundw
        case rel=>exact ⟨xs,y :: ys,zs++[x],af ⟨am.out.rest,aq.out,ay.out.lt aN.out⟩,by simpa [ib] using O7.out,((ap.out.trans (aj.out.alloc _)).app al.out)⟩
        case measure=>simp [Ft];try omega
       ·rw [show rh x y=1 by unfold rh;rw [if_neg az,if_neg aC]] at hcmp;have HC:=af hcmp;have hgt:lI y x:=by rcases oZ x y with h | h | h;exact absurd h aC;exact absurd h az;exact h
        have aN:=af hgt;clear hcmp aC az hgt;go_wp2_with fail;go_quiet ((go_at_call 170;exact Calls.quiet_of_same (HC.out _)));generalize aw:World.drewN wr _=wq;have aj:Hid (gO wr wq):=af (by rw [<-aw];exact (gO.refl _).drewN _);have aQ:wo.heap.size<=wq.heap.size:=by have:=aj.out.size;omega
        have d1:=aj.out.cell c1;have d2:=aj.out.cell c2;clear aw c1 c2;go_wp2_with (at_builtin;refine kp rfl _ _ rfl wo.heap.size _ (ib zs) rfl (HO.out.kept (aj.out.alloc _)) _ (y:Int) rfl (by simp) (by simp;omega) (by simp;omega) ?_;intro v7 w7 ag _ ah;have O7:=af ag;have al:=af ah;clear ag ah);go_roundw
        case rel=>exact ⟨x :: xs,ys,zs++[y],af ⟨am.out,aq.out.rest,ay.out.gt aN.out⟩,by simpa [ib] using O7.out,((ap.out.trans (aj.out.alloc _)).app al.out)⟩
        case measure=>simp [Ft];try omega
def Li (l:List Nat) (s:Nat):Bool:=l.any fun t=>iE t s
theorem AQ {R:List Nat}:∀ {l:List Nat},R.Nodup->(∀ x∈R,x∈l)->l.length<=R.length->l.Perm R:=by
 induction R with
 | nil=>intro l _ _ hl;simp at hl;subst hl;exact .refl _
 | cons x R ih =>
  intro l hn hs hl;have hx:x∈l:=hs x (List.mem_cons_self ..);have h1:=List.perm_cons_erase hx;have h2:=ih (l:=l.erase x) (List.nodup_cons.1 hn).2 (fun y hy=>(List.mem_erase_of_ne (fun e=>(List.nodup_cons.1 hn).1 (by rw [<-e];exact hy))).2 (hs y (List.mem_cons_of_mem _ hy))) (by rw [List.length_erase_of_mem hx];simp at hl;omega);exact h1.trans (h2.cons x)
theorem Bz {R rs:List Nat} (hR:Hc R) (hl:rs.length=R.length) (hp:rs.Pairwise (fun a b=>lI a b\/a=b)) (hm:∀ x,x∈rs ↔ x∈R):rs=R:=by
 have ah:R.Pairwise lI:=by rw [<-hR];exact kZ R
 have ai:R.Nodup:=ah.imp fun {a b} h e=>by subst e;exact kO a h
 have ag:=AQ ai (fun x hx=>(hm x).2 hx) (Nat.le_of_eq hl);have hn:rs.Nodup:=ag.symm.nodup ai;have aj:rs.Pairwise lI:=(hp.and hn).imp fun {a b} h=>h.1.resolve_right h.2
 exact kC lI kO mY rs R aj ah hm
def wD (w':World) (e:Ending) (p:List Nat × List Nat):Prop:=∃ v1 v2 L,e=.returned (.tuple #[v1,v2,.nilIface])/\ix w' 0 v1 L/\L.Perm p.1/\OwnInts w' 0 v2 (ib p.2)
theorem pk (v:Value) (f:Fm) (q:Nat) (hq:q≠0) (w:World) (hs:∃ a n c,v=.slice a n c) (hr:∀ W,gO w W->Calls Tryz.prog 77 #[ot v f] W fun e w'=>e=.returned (.tuple #[.slice none 0 0,.slice none 0 0,iV q])/\gO W w') :
  Calls Tryz.prog 34 #[ot v f] w fun e w'=>e=.returned (.tuple #[.slice none 0 0,iV q])/\gO w w':=by
 obtain ⟨a,n,c,rfl⟩:=hs;obtain ⟨vars,nodes,top⟩:=f;have H:Hid (∀ W,gO w W->Calls Tryz.prog 77 #[.agg #[.int .i64 vars,.slice a n c,.int .i64 top]] W fun e w'=>e=.returned (.tuple #[.slice none 0 0,.slice none 0 0,iV q])/\gO W w'):=af hr;rw [iF hq] at *;clear hr hq;show Calls _ _ #[.agg #[.int .i64 vars,.slice a n c,.int .i64 top]] _ _;go_enter Tryz.func34,Tryz.ntmps34;go_wp2_with (go_at_call 77;refine (H.out _ ((gO.refl _).alloc _)).mono ?_;rintro e w1 ⟨rfl,ag⟩);go_ret2;exact ⟨rfl,((gO.refl _).alloc _).trans ag⟩
theorem zO (v:Value) (V T:Nat) (p:List Nat × List Nat) (w:World) (hg:Good p.1) (hm:∀ r∈p.1,Mk r) (hs:∃ a n c,v=.slice a n c) (hr:∀ W,gO w W->Calls Tryz.prog 77 #[.agg #[.int .i64 V,v,.int .i64 T]] W fun e w'=>wD w' e p/\gO W w') :
  Calls Tryz.prog 34 #[.agg #[.int .i64 V,v,.int .i64 T]] w fun e w'=>(∃ v',e=.returned (.tuple #[v',.nilIface])/\hC w' 0 v' p.1)/\gO w w':=by
 obtain ⟨a,n,c,rfl⟩:=hs;have H:=af hr;have HG:=af hg;have HM:=af hm;clear hr hg hm;go_enter Tryz.func34,Tryz.ntmps34;go_wp2_with (go_at_call 77;refine (H.out _ ((gO.refl _).alloc _)).mono ?_;rintro e w1 ⟨⟨v1,v2,L,rfl,ai,aq,ar⟩,aw⟩;obtain ⟨ln,aj⟩:∃ ln,ln=L.length:=⟨_,rfl⟩;obtain ⟨a1,c1,rfl⟩:=ai.at.shape;obtain ⟨a2,n2,c2,rfl⟩:=ar.ints.shape;rw [<-aj] at ai;rw [<-aj];have O1:=af ai;have ay:=af aj;have am:=af aq;have aS:ln<=10000:=(by rw [aj];exact ai.at.len);clear aj aq ai ar);have al:=((gO.refl _).alloc _).trans aw;have aL:=af al;clear al aw;go_loopg [7,21] ln (fun kx s7 s21 wr=>∃ (k:Nat) (vo:Value),s7=vo/\s21=.int .i64 k/\k<=ln/\ln - k<=kx/\Hid (OwnInts wr w1.heap.size vo (ib (L.take k)))/\Hid (gO w1 wr))
 case atStart=>exact ⟨0,_,rfl,rfl,Nat.zero_le _,by omega,af (OwnInts.nil _ _),af (gO.refl _)⟩
 case round =>
  obtain ⟨k,vo,rfl,rfl,hk,aT,HO,HK⟩:=hrel;have hsz:=HK.out.size;obtain ⟨ao,no,co,aM⟩:=HO.out.ints.shape;subst aM;by_cases aU:k<ln
  ·have az:k<L.length:=by have:=ay.out;omega
   obtain ⟨b,o,rfl,aA⟩:=(O1.out.at.kept HK.out).get k az;have aB:Mk L[k]:=HM.out _ (am.out.mem_iff.1 (List.getElem_mem _));have aC:iM L[k]=L[k]:=by unfold iM;unfold Mk at aB;omega
   have ag:ib (L.take (k+1))=ib (L.take k)++[((iM L[k]:Nat):Int)]:=by unfold ib;rw [aC,List.take_succ_eq_append_getElem az,List.map_append];rfl
   have ap:(ib (L.take k)).length=k:=by simp [ib];omega
   have aV:(k:Int)<(ln:Int):=by omega
   have aN:Hid (wr.rangeAt b (o+k*3) [.int .i64 (iM L[k]),.int .u64 (jK L[k]),.int .u64 (jF L[k])]):=af aA;generalize iM L[k]=z0 at *;generalize jK L[k]=z1 at *;generalize jF L[k]=z2 at *;have aO:=af ag;clear aA aB aC ag;go_wp2_with (first | (with_reducible refine wpList_load_mid rfl 99 _ rfl b (o+k*3) rfl _ _ aN.out Tryz.underlying99 rfl (by kernel_rfl) ?_) | (at_builtin;refine kp rfl _ _ rfl w1.heap.size _ (ib (L.take k)) rfl (HO.out.kept (((gO.refl _).alloc _).alloc _)) _ (z0:Int) rfl (by simp) (by rw [ap];omega) (by simp;omega) ?_;intro v7 w7 ah _ aD;have O7:=af ah;have aP:=af aD;clear ah aD));go_roundg (ln - (k+1))
   case measure=>omega
   case rel=>exact ⟨k+1,v7,rfl,by go_num,by omega,Nat.le_refl _,af (by rw [aO.out];exact O7.out),af (((HK.out.alloc _).alloc _).app aP.out)⟩
  ·have aF:k=ln:=by omega
   have HF:Hid (OwnInts wr w1.heap.size (.slice ao no co) (ib L)):=af (by have h:=HO.out;rw [aF,ay.out,List.take_length] at h;exact h);have aQ:Hid (∀ n∈L,Mk n):=af fun x hx=>HM.out x (am.out.mem_iff.1 hx)
   clear aF;go_wp2_with (go_at_call 78;refine (zH w1.heap.size _ L _ aQ.out HF.out hsz).mono ?_;rintro e w3 ⟨rfl,rs,aG,aH,aI,aJ,aK,aR⟩;have O3:=af aK;have R1:=af aG;have R2:=af aH;have R3:=af aI;have R4:=af aJ;clear aK aG aH aI aJ);go_ret2;have he:rs=p.1:=Bz HG.out.1 (R2.out.trans am.out.length_eq) R3.out fun x=>(R4.out x).trans am.out.mem_iff
   refine ⟨⟨_,rfl,by rw [<-he];exact O3.out.mono (Nat.zero_le _),HM.out⟩,aL.out.trans (HK.out.app aR)⟩
theorem xp (n:Nat) (h:0<n):pc (2*n)=pc n:=by
 conv=>lhs;unfold pc
 rw [if_neg (by omega),show 2*n % 2=0 by omega,show 2*n / 2=n by omega];omega
theorem FW (n:Nat):pc (2*n+1)=1+pc n:=by
 conv=>lhs;unfold pc
 rw [if_neg (by omega),show (2*n+1) % 2=1 by omega,show (2*n+1) / 2=n by omega]
theorem FX (k:Nat):pc (2^k)=1:=by
 induction k with
 | zero=>exact Kj.2.1
 | succ k ih=>rw [Nat.pow_succ,Nat.mul_comm,xp _ (Nat.pow_pos (by omega))];exact ih
set_option linter.unusedSimpArgs false in
theorem JS:nc 3 5 wW=some ([1,6],[1,2,2]):=by
 obtain ⟨h0,h1,h2,h3,h4,h5,h6,h7⟩:=Kj;have p1:pc 16777217=2:=by rw [show 16777217=2*2^23+1 by decide,FW,FX]
 have p2:pc 16777220=2:=by rw [show 16777220=2*(2*(2*2^21+1)) by decide,xp _ (by decide),xp _ (by decide),FW,FX]
 have m1:iy [50331648]=[50331648]:=by simp [iy,iA,oK,nP,iu]
 have m2:iy [16777217,16777220]=[16777217,16777220]:=by simp +decide [iy,iA,oK,nP,iu,lI,p1,p2]
 have m3:iy [1,3,5,6]=[1,6]:=by simp +decide [iy,iA,oK,nP,iu,lI,h0,h1,h2,h3,h4,h5,h6,h7]
 have s2:kU 3 wW 3 [67108864]=(kU 3 wW 2 [50331648]).map fun p=>(p.1,1 :: p.2):=by
  conv=>lhs;unfold kU
  rw [if_pos (by decide),show iP 3 (wW.getD 2 iZ) 2 [67108864]=[50331648] by decide,m1];rfl
 have s1:kU 3 wW 2 [50331648]=(kU 3 wW 1 [16777217,16777220]).map fun p=>(p.1,2 :: p.2):=by
  conv=>lhs;unfold kU
  rw [if_pos (by decide),show iP 3 (wW.getD 1 iZ) 1 [50331648]=[16777217,16777220] by decide,m2];rfl
 have s0:kU 3 wW 1 [16777217,16777220]=(kU 3 wW 0 [1,6]).map fun p=>(p.1,2 :: p.2):=by
  conv=>lhs;unfold kU
  rw [if_pos (by decide),show iP 3 (wW.getD 0 iZ) 0 [16777217,16777220]=[1,3,5,6] by decide,m3];rfl
 unfold nc;rw [show cond 3 ((5:Nat):Int)=67108864 by decide,show wW.length=3 from rfl,s2,s1,s0];rfl
def J' (w:World) (B:Nat) (v:Value) (bs:List Bool):Prop:=w.ownsRow B 4 1 v bs.length (bs.map Value.bool)/\bs.length<=1000000
theorem Cf (s k:Nat) (hs:s<16777216):(bits .and .i64 ((s:Int) / 2^k) 1 == 1)=s.testBit k:=by
 have e:(s:Int) / 2^k=((s / 2^k:Nat):Int):=by simp
 have ag:s / 2^k<=s:=Nat.div_le_self _ _;rw [e,show (1:Int)=((1:Nat):Int) from rfl,oV _ _ (by omega) (by omega),Nat.testBit_eq_decide_div_mod_eq,Nat.and_one_is_mod];rw [Bool.eq_iff_iff];simp;omega
def Kr (w:World) (v:Value) (bs:List Bool):Prop :=
 ∃ (a:Option Addr) (c:Nat),v=.slice a bs.length c/\bs.length<=c/\bs.length<=1000000/\∀ i (_:i<bs.length),∃ b o,a=some ⟨b,o,none⟩/\w.cell? ⟨b,o+i,none⟩=some (.bool (bs.getD i false))
def nv:List Nat->Nat
 | []=>0
 | x :: l=>x+4294967296*nv l
def nw (n:Nat):List Nat:=if h:n=0 then [] else n % 4294967296 :: nw (n / 4294967296)
termination_by n
decreasing_by exact Nat.div_lt_self (by omega) (by omega)
def Wd (l:List Nat):Prop:=∀ x∈l,x<4294967296
theorem Wd.nil:Wd []:=fun x h=>by simp at h
theorem Wd.cons {x:Nat} {l:List Nat} (h:x<4294967296) (k:Wd l):Wd (x :: l):=fun y hy=>(List.mem_cons.1 hy).elim (fun e=>by rw [e];exact h) (k y)
theorem Wd.tail {x:Nat} {l:List Nat} (h:Wd (x :: l)):Wd l:=fun y hy=>h y (List.mem_cons_of_mem _ hy)
theorem Wd.head {x:Nat} {l:List Nat} (h:Wd (x :: l)):x<4294967296:=h x (List.mem_cons_self ..)
theorem Wd.take {l:List Nat} (h:Wd l) (n:Nat):Wd (l.take n):=fun y hy=>h y (List.mem_of_mem_take hy)
theorem Wd.drop {l:List Nat} (h:Wd l) (n:Nat):Wd (l.drop n):=fun y hy=>h y (List.mem_of_mem_drop hy)
theorem Wd.app {a b:List Nat} (h:Wd a) (k:Wd b):Wd (a++b):=fun y hy=>(List.mem_append.1 hy).elim (h y) (k y)
theorem Wd.set {l:List Nat} (h:Wd l) (i x:Nat) (hx:x<4294967296):Wd (l.set i x):=fun y hy=>(List.mem_or_eq_of_mem_set hy).elim (h y) (fun e=>by rw [e];exact hx)
theorem Wd.getD {l:List Nat} (h:Wd l) (i:Nat):l.getD i 0<4294967296:=by
 rw [List.getD_eq_getElem?_getD];cases hi:l[i]? with
 | none=>simp
 | some x=>simpa using h x (List.mem_of_getElem? hi)
theorem Wd.zeros (n:Nat):Wd (List.replicate n 0):=fun y hy=>by have:=List.eq_of_mem_replicate hy;omega
theorem jR:nv []=0:=rfl
theorem jO (x:Nat) (l:List Nat):nv (x :: l)=x+4294967296*nv l:=rfl
theorem rC (a b:List Nat):nv (a++b)=nv a+4294967296^a.length*nv b:=by
 induction a with
 | nil=>simp [nv]
 | cons x a ih=>rw [List.cons_append,jO,jO,ih,List.length_cons,Nat.pow_succ,Nat.mul_add,<-Nat.mul_assoc,Nat.mul_comm 4294967296 (4294967296^a.length)];omega
theorem kM {a:List Nat} (h:Wd a):nv a<4294967296^a.length:=by
 induction a with
 | nil=>simp [nv]
 | cons x a ih =>
  have h1:=ih h.tail;have h2:=h.head;rw [jO,List.length_cons,Nat.pow_succ];omega
theorem qR (n:Nat):nv (List.replicate n 0)=0:=by
 induction n with
 | zero=>rfl
 | succ n ih=>rw [List.replicate_succ,jO,ih]
theorem gX (a:List Nat) (i:Nat):nv (a.take (i+1))=nv (a.take i)+a.getD i 0*4294967296^i:=by
 by_cases h:i<a.length
 ·rw [List.take_succ_eq_append_getElem h,rC,jO,jR,List.length_take,Nat.min_eq_left (Nat.le_of_lt h),Nat.mul_comm];simp [List.getD_eq_getElem?_getD,h]
 ·rw [List.take_of_length_le (by omega),List.take_of_length_le (by omega)];simp [List.getD_eq_getElem?_getD,Nat.le_of_not_lt h]
theorem ig (a:List Nat) (i:Nat) (h:a.length<=i):nv (a.take i)=nv a:=by rw [List.take_of_length_le h]
theorem mu (a:List Nat) (i:Nat) (h:i<=a.length):nv a=nv (a.take i)+4294967296^i*nv (a.drop i):=by
 conv=>lhs;rw [<-List.take_append_drop i a]
 rw [rC,List.length_take,Nat.min_eq_left h]
theorem xk (l:List Nat):∀ (i x:Nat),i<l.length->nv (l.set i x)+l.getD i 0*4294967296^i=nv l+x*4294967296^i:=by
 induction l with
 | nil=>intro i x h;simp at h
 | cons y l ih =>
  intro i x h;cases i with
  | zero=>simp [jO];omega
  | succ i =>
   have:=ih i x (by simpa using h);rw [List.set_cons_succ,jO,jO,List.getD_cons_succ,Nat.pow_succ,<-Nat.mul_assoc,<-Nat.mul_assoc,Nat.mul_comm _ 4294967296,Nat.mul_comm (x*_) 4294967296];omega
theorem jE:nw 0=[]:=by rw [nw];simp
theorem rE {n:Nat} (h:n≠0):nw n=n % 4294967296 :: nw (n / 4294967296):=by rw [nw];simp [h]
theorem lC:∀ n,Wd (nw n):=by
 intro n;induction n using Nat.strongRecOn with
 | _ n ih =>
  by_cases h:n=0
  ·subst h;rw [jE];exact Wd.nil
  ·rw [rE h];exact Wd.cons (Nat.mod_lt _ (by omega)) (ih _ (Nat.div_lt_self (by omega) (by omega)))
theorem gW:∀ n,nv (nw n)=n:=by
 intro n;induction n using Nat.strongRecOn with
 | _ n ih =>
  by_cases h:n=0
  ·subst h;rw [jE];rfl
  ·rw [rE h,jO,ih _ (Nat.div_lt_self (by omega) (by omega))];omega
def Pl (l:List Nat):Prop:=∀ h:l≠[],l.getLast h≠0
theorem Cs:∀ {l:List Nat},Wd l->Pl l->nw (nv l)=l:=by
 intro l;induction l with
 | nil=>intro _ _;exact jE
 | cons x l ih =>
  intro hw hp;have hx:=hw.head
  have ag:nv (x :: l)≠0:=by
   rw [jO];by_cases hl:l=[]
   ·subst hl;have:=hp (by simp);simp at this;rw [jR];omega
   ·intro h0;have h1:nv l=0:=by omega
    have h2:=ih hw.tail (fun h=>by have:=hp (by simp);rwa [List.getLast_cons h] at this);rw [h1,jE] at h2;exact hl h2.symm
  rw [rE ag,jO];have e1:(x+4294967296*nv l) % 4294967296=x:=by omega
  have e2:(x+4294967296*nv l) / 4294967296=nv l:=by omega
  rw [e1,e2,ih hw.tail fun h=>by have:=hp (by simp);rwa [List.getLast_cons h] at this]
theorem FL (n:Nat):Pl (nw n):=by
 induction n using Nat.strongRecOn with
 | _ n ih =>
  by_cases h:n=0
  ·subst h;rw [jE];intro h;exact absurd rfl h
  ·rw [rE h];intro _;have h2:=ih (n / 4294967296) (Nat.div_lt_self (by omega) (by omega));by_cases h3:nw (n / 4294967296)=[]
   ·have h4:n / 4294967296=0:=by have:=gW (n / 4294967296);rw [h3] at this;exact this.symm
    simp [h3];omega
   ·rw [List.getLast_cons h3];exact h2 h3
theorem xl {a:List Nat} (hw:Wd a) {n:Nat} (hn:n<=a.length) (hz:∀ i,n<=i->a.getD i 0=0) (hl:n=0\/a.getD (n - 1) 0≠0):nw (nv a)=a.take n:=by
 have h1:nv a=nv (a.take n):=by
  have:∀ k,nv (a.take (n+k))=nv (a.take n):=by
   intro k;induction k with
   | zero=>rfl
   | succ k ih=>rw [<-Nat.add_assoc,gX,ih,hz (n+k) (by omega),Nat.zero_mul,Nat.add_zero]
  have h2:=this a.length;rw [ig a _ (by omega)] at h2;exact h2
 rw [h1];refine Cs (hw.take n) fun h=>?_
 have hpos:0<n:=by
  rcases Nat.eq_zero_or_pos n with rfl | h2
  ·simp at h
  ·exact h2
 have:=hl.resolve_left (by omega);rw [List.getLast_eq_getElem];simp only [List.getElem_take,List.length_take,Nat.min_eq_left hn];rw [List.getD_eq_getElem?_getD,List.getElem?_eq_getElem (by omega)] at this;simpa using this
theorem iw {n k:Nat}:(nw n).length<=k ↔ n<4294967296^k:=by
 constructor
 ·intro h;have h1:=kM (lC n);rw [gW] at h1;exact Nat.lt_of_lt_of_le h1 (Nat.pow_le_pow_right (by omega) h)
 ·intro h;induction k generalizing n with
  | zero=>simp at h;subst h;rw [jE];simp
  | succ k ih =>
   by_cases h0:n=0
   ·subst h0;rw [jE];simp
   ·rw [rE h0,List.length_cons];have:=ih (n:=n / 4294967296) (by rw [Nat.pow_succ] at h;exact Nat.div_lt_of_lt_mul (by rw [Nat.mul_comm];exact h));omega
theorem kl {n:Nat}:nw n=[] ↔ n=0:=by
 constructor
 ·intro h;have:=gW n;rw [h] at this;exact this.symm
 ·intro h;rw [h];exact jE
theorem yR {a b:List Nat} (ha:Wd a) (hl:a.length=b.length) {k:Nat} (hk:k<a.length) (hd:∀ i,k<i->a.getD i 0=b.getD i 0) (ag:a.getD k 0<b.getD k 0):nv a<nv b:=by
 have key:∀ j,nv (a.take (k+1+j))<nv (b.take (k+1+j)):=by
  intro j;induction j with
  | zero =>
   rw [Nat.add_zero,gX,gX];have h1:=kM (ha.take k);rw [List.length_take,Nat.min_eq_left (Nat.le_of_lt hk)] at h1;have h2:(a.getD k 0+1)*4294967296^k<=b.getD k 0*4294967296^k:=Nat.mul_le_mul_right _ ag;rw [Nat.add_mul,Nat.one_mul] at h2;omega
  | succ j ih =>
   rw [<-Nat.add_assoc,gX,gX,hd (k+1+j) (by omega)];omega
 have:=key a.length
 rwa [ig a _ (by omega),ig b _ (by omega)] at this
theorem FK {a b:List Nat} (hl:a.length=b.length) (hd:∀ i,a.getD i 0=b.getD i 0):a=b:=by
 refine List.ext_getElem hl fun i h1 h2=>?_
 have:=hd i;simpa [List.getD_eq_getElem?_getD,h1,h2] using this
theorem rD {m n:Nat} (h:(nw m).length<(nw n).length):m<n:=by
 have h1:=(iw (n:=m)).1 (Nat.le_refl _);have h2:¬ n<4294967296^(nw m).length:=fun h2=>by have:=iw.2 h2;omega
 omega
theorem mt (s P:Nat):(s % 4294967296)*P+(s / 4294967296)*(4294967296*P)=s*P:=by
 have h:=Nat.div_add_mod s 4294967296
 have h2:(s % 4294967296)*P+(s / 4294967296)*(4294967296*P)=(4294967296*(s / 4294967296)+s % 4294967296)*P:=by
  rw [Nat.add_mul,Nat.mul_comm 4294967296 (s / 4294967296),Nat.mul_assoc];omega
 rw [h2,h]
theorem kY {l:List Nat} {i:Nat} (h:i<l.length) (x:Nat):nv ((l.set i x).take (i+1))=nv (l.take i)+x*4294967296^i:=by
 rw [gX,List.take_set_of_le (Nat.le_refl _)];simp [List.getD_eq_getElem?_getD,h]
theorem lO {l:List Nat} {i:Nat} (h:i<l.length) (x:Nat):(l.set i x).getD i 0=x:=by simp [List.getD_eq_getElem?_getD,h]
theorem kw {l:List Nat} {i j:Nat} (h:i≠j) (x:Nat):(l.set i x).getD j 0=l.getD j 0:=by simp [List.getD_eq_getElem?_getD,List.getElem?_set_ne h]
theorem rU {O c X Y x y P s:Nat} (h:O+c*P=X+Y) (hs:s=c+x+y):(O+(s % 4294967296)*P)+(s / 4294967296)*(4294967296*P)=(X+x*P)+(Y+y*P):=by
 have h1:=mt s P;have h2:s*P=c*P+x*P+y*P:=by rw [hs,Nat.add_mul,Nat.add_mul]
 omega
theorem zM {O b X Y x y P o b':Nat} (h:O+Y=X+b*P) (hs:o+y+b=x+b'*4294967296):(O+o*P)+(Y+y*P)=(X+x*P)+b'*(4294967296*P):=by
 have h2:(o+y+b)*P=(x+b'*4294967296)*P:=by rw [hs]
 rw [Nat.add_mul,Nat.add_mul,Nat.add_mul,Nat.mul_assoc] at h2;omega
theorem tP {l:List Nat} (h:nv l=0):∀ i,l.getD i 0=0:=by
 induction l with
 | nil=>simp
 | cons x l ih =>
  rw [jO] at h;intro i;cases i with
  | zero=>rw [List.getD_cons_zero];omega
  | succ i=>rw [List.getD_cons_succ];exact ih (by omega) i
theorem kV (l:List Nat) (k i:Nat):(l.drop k).getD i 0=l.getD (k+i) 0:=by simp [List.getD_eq_getElem?_getD]
theorem jQ {l:List Nat} {k i:Nat} (h:i<k):(l.take k).getD i 0=l.getD i 0:=by simp [List.getD_eq_getElem?_getD,List.getElem?_take_of_lt h]
theorem qn {l:List Nat} {k:Nat} (h:nv l<4294967296^k):(∀ j,k<=j->l.getD j 0=0)/\nv (l.take k)=nv l:=by
 by_cases hk:k<=l.length
 ·have h1:=mu l k hk
  have h2:nv (l.drop k)=0:=by
   rcases Nat.eq_zero_or_pos (nv (l.drop k)) with h3 | h3
   ·exact h3
   ·have:4294967296^k*1<=4294967296^k*nv (l.drop k):=Nat.mul_le_mul_left _ h3
    omega
  refine ⟨fun j hj=>?_,by rw [h1,h2];omega⟩;have:=tP h2 (j - k)
  rwa [kV,Nat.add_sub_cancel' hj] at this
 ·refine ⟨fun j hj=>?_,ig _ _ (by omega)⟩;simp [List.getD_eq_getElem?_getD,show l.length<=j by omega]
theorem FD {N c M x Y P y w s:Nat} (h:N+c*P=M+x*Y) (hs:s=c+x*y+w):∀ N',N'+w*P=N+(s % 4294967296)*P->N'+(s / 4294967296)*(4294967296*P)=M+x*(Y+y*P):=by
 intro N' hN;have h1:=mt s P;have h2:s*P=c*P+x*(y*P)+w*P:=by rw [hs,Nat.add_mul,Nat.add_mul,Nat.mul_assoc]
 rw [Nat.mul_add];omega
theorem Dw {c x y w:Nat} (hc:c<4294967296) (hx:x<4294967296) (hy:y<4294967296) (hw:w<4294967296):c+x*y+w<18446744073709551616:=by
 have:x*y<=4294967295*4294967295:=Nat.mul_le_mul (by omega) (by omega)
 omega
theorem EY {a b q r:Nat} (h:a=b*q+r) (hr:r<b):a / b=q/\a % b=r:=by
 subst h;constructor
 ·rw [Nat.mul_add_div (by omega),Nat.div_eq_of_lt hr,Nat.add_zero]
 ·rw [Nat.mul_add_mod,Nat.mod_eq_of_lt hr]
theorem iG {l:List Nat} {i:Nat} (h:i<l.length):nv (l.drop i)=l.getD i 0+4294967296*nv (l.drop (i+1)):=by
 rw [List.drop_eq_getElem_cons h,jO];simp [List.getD_eq_getElem?_getD,h]
theorem kB {l:List Nat} {i:Nat} (h:l.length<=i):nv (l.drop i)=0:=by rw [List.drop_eq_nil_of_le h];rfl
theorem Bx {X Q b rest x cur:Nat} (h:X=b*Q+rest) (hr:rest<b) (hb:b<4294967296) (hx:x<4294967296) (hc:cur=rest*4294967296+x) :
  x+4294967296*X=b*(cur / b+4294967296*Q)+cur % b/\cur % b<b/\cur / b<4294967296/\cur<18446744073709551616:=by
 have h1:=Nat.div_add_mod cur b
 have ag:cur<b*4294967296:=by
  have:(rest+1)*4294967296<=b*4294967296:=Nat.mul_le_mul_right _ hr
  omega
 have ah:b*4294967296<=4294967296*4294967296:=Nat.mul_le_mul_right _ (by omega);refine ⟨?_,Nat.mod_lt _ (by omega),Nat.div_lt_of_lt_mul ag,by omega⟩;rw [Nat.mul_add,show b*(4294967296*Q)=4294967296*(b*Q) by rw [Nat.mul_left_comm]];subst h;omega
theorem IC {N X x n P w y:Nat} (hn:n<32) (hN:N=X*2^n) (hy:y=x*2^n) (hw:w<2^n):∀ N',N'+w*P=N+(w ||| (y % 4294967296))*P+(y / 4294967296)*(4294967296*P)->(w ||| (y % 4294967296))=w+y % 4294967296/\N'=(X+x*P)*2^n:=by
 have ag:(w ||| (y % 4294967296))=w+y % 4294967296:=by
  have e:y % 4294967296=2^n*(x % 2^(32 - n)):=by
   rw [hy,show (4294967296:Nat)=2^n*2^(32 - n) by rw [<-Nat.pow_add,show n+(32 - n)=32 by omega],Nat.mul_comm x,Nat.mul_mod_mul_left]
  rw [e,Nat.or_comm,<-Nat.two_pow_add_eq_or_of_lt hw];omega
 intro N' h;refine ⟨ag,?_⟩;rw [ag,Nat.add_mul] at h;have h1:=mt y P;have h2:(X+x*P)*2^n=N+y*P:=by rw [hN,hy,Nat.add_mul,Nat.mul_assoc,Nat.mul_assoc,Nat.mul_comm P]
 omega
theorem GZ {x n y:Nat} (hn:n<32) (hx:x<4294967296) (hy:y=x*2^n):y<18446744073709551616/\y / 4294967296<2^n:=by
 have h2:2^n<=2^31:=Nat.pow_le_pow_right (by omega) (by omega);have h3:y<4294967296*2^n:=by rw [hy];exact (Nat.mul_lt_mul_right (Nat.pow_pos (by omega))).2 hx
 exact ⟨by omega,Nat.div_lt_of_lt_mul h3⟩
theorem CT {a:List Nat} (n i:Nat) (hn:n<32) (hi:i<a.length) (hw:Wd a):((a.getD i 0 ||| a.getD (i+1) 0*4294967296) / 2^n) % 4294967296=(nv a / 2^n / 4294967296^i) % 4294967296:=by
 have ag:(a.getD i 0 ||| a.getD (i+1) 0*4294967296)=a.getD i 0+4294967296*a.getD (i+1) 0:=by
  rw [Nat.or_comm,Nat.mul_comm,show (4294967296:Nat)=2^32 by rfl,<-Nat.two_pow_add_eq_or_of_lt (by have:=hw.getD i;omega)];omega
 have e1:nv a / 2^n / 4294967296^i=nv (a.drop i) / 2^n:=by
  rw [Nat.div_div_eq_div_mul,Nat.mul_comm,<-Nat.div_div_eq_div_mul,mu a i (Nat.le_of_lt hi),Nat.add_mul_div_left _ _ (Nat.pow_pos (by omega))];have:=kM (hw.take i);rw [List.length_take,Nat.min_eq_left (Nat.le_of_lt hi)] at this;rw [Nat.div_eq_of_lt this,Nat.zero_add]
 rw [e1,ag,iG hi]
 obtain ⟨z,hz⟩:∃ z,nv (a.drop (i+1))=a.getD (i+1) 0+4294967296*z:=by
  by_cases h:i+1<a.length
  ·exact ⟨_,iG h⟩
  ·refine ⟨0,?_⟩;rw [kB (by omega)];simp [List.getD_eq_getElem?_getD,show a.length<=i+1 by omega]
 rw [hz,Nat.mul_add,<-Nat.add_assoc]
 have e2:4294967296*(4294967296*z)=2^n*(4294967296*(2^(32 - n)*z)):=by
  rw [<-Nat.mul_assoc,<-Nat.mul_assoc,Nat.mul_comm (2^n) 4294967296,<-Nat.mul_assoc,Nat.mul_assoc 4294967296 (2^n),<-Nat.pow_add,show n+(32 - n)=32 by omega]
 rw [e2,Nat.add_mul_div_left _ _ (Nat.pow_pos (by omega)),Nat.add_mul_mod_self_left]
theorem qO (x i:Nat):x % 4294967296^(i+1)=x % 4294967296^i+(x / 4294967296^i % 4294967296)*4294967296^i:=by
 rw [Nat.pow_succ,Nat.mod_mul,Nat.mul_comm (4294967296^i)]
theorem yy {V W top head P:Nat} (hV:top*P<=V) (hW:W<(head+1)*P) (ht:0<top):W / V<=head / top:=by
 rw [Nat.le_div_iff_mul_le ht];rcases Nat.eq_zero_or_pos V with rfl | hpos
 ·simp
 have h1:W / V*(top*P)<=W / V*V:=Nat.mul_le_mul_left _ hV;have h2:W / V*V<=W:=Nat.div_mul_le_self W V;have h3:W / V*top*P<(head+1)*P:=by rw [Nat.mul_assoc];omega
 have h4:=Nat.lt_of_mul_lt_mul_right h3;omega
theorem Dc {V W V2 head3 guess P:Nat} (hV:V2*P<=V) (hW:W<(head3+1)*P) (hg:head3<guess*V2):W / V<guess:=by
 rcases Nat.eq_zero_or_pos V with rfl | hpos
 ·simp;rcases Nat.eq_zero_or_pos guess with rfl | h
  ·simp at hg
  ·exact h
 rw [Nat.div_lt_iff_lt_mul hpos];have h1:guess*(V2*P)<=guess*V:=Nat.mul_le_mul_left _ hV;have h2:(head3+1)*P<=guess*V2*P:=Nat.mul_le_mul_right _ hg;rw [Nat.mul_assoc] at h2;omega
theorem Fl {V W V2 head3 guess P:Nat} (hV:V<(V2+1)*P) (hW:head3*P<=W) (hg:guess*V2<=head3) (hb:guess*P<=V) (hpos:0<V):guess<=W / V+1:=by
 have h1:guess*V<=guess*((V2+1)*P):=Nat.mul_le_mul_left _ (Nat.le_of_lt hV);have h2:guess*V2*P<=head3*P:=Nat.mul_le_mul_right _ hg;have h3:guess*((V2+1)*P)=guess*V2*P+guess*P:=by rw [Nat.add_mul,Nat.one_mul,Nat.mul_add,Nat.mul_assoc]
 have h4:guess*V<=W+V:=by omega
 have h5:guess<=(W+V) / V:=(Nat.le_div_iff_mul_le hpos).2 h4
 rwa [Nat.add_div_right _ hpos] at h5
theorem Fa {head top next u2 guess rest:Nat} (h:guess*top+rest=head) (hg:4294967296<=guess\/rest*4294967296+u2<guess*next):head*4294967296+u2<guess*(top*4294967296+next)\/4294967296<=guess:=by
 rcases hg with hg | hg
 ·exact .inr hg
 ·refine .inl ?_;subst h;rw [Nat.mul_add,Nat.add_mul,<-Nat.mul_assoc,Nat.add_assoc];exact Nat.add_lt_add_left hg _
theorem yn {head top next u2 guess rest:Nat} (h:guess*top+rest=head) (hg:guess*next<=rest*4294967296+u2):guess*(top*4294967296+next)<=head*4294967296+u2:=by
 subst h;rw [Nat.mul_add,Nat.add_mul,<-Nat.mul_assoc];omega
theorem CW {head top next u2 guess rest:Nat} (h:guess*top+rest=head) (hr:4294967296<=rest) (hh:head<(top+1)*4294967296) (hn:next<4294967296) (_ht:0<top):guess<4294967296/\guess*(top*4294967296+next)<=head*4294967296+u2:=by
 have hg:guess<4294967296:=by
  have h1:guess*top<4294967296*top:=by rw [Nat.add_mul] at hh;omega
  exact Nat.lt_of_mul_lt_mul_right h1
 refine ⟨hg,yn h ?_⟩;have h2:guess*next<=4294967296*next:=Nat.mul_le_mul_right _ (Nat.le_of_lt hg);omega
theorem Ej {O X Y x y n P b c s o b':Nat} (h:O+n*Y=X+b*P+c*P) (hs:s=c+n*y) (ho:o+s % 4294967296+b=x+b'*4294967296) :
  (O+o*P)+n*(Y+y*P)=(X+x*P)+b'*(4294967296*P)+(s / 4294967296)*(4294967296*P):=by
 have h1:=mt s P;have h2:s*P=c*P+n*(y*P):=by rw [hs,Nat.add_mul,Nat.mul_assoc]
 have h3:(o+s % 4294967296+b)*P=(x+b'*4294967296)*P:=by rw [ho]
 rw [Nat.add_mul,Nat.add_mul,Nat.add_mul,Nat.mul_assoc] at h3;rw [Nat.mul_add];omega
theorem CS {V W guess U b M:Nat} (hpos:0<V) (hU:U+guess*V=W+b*M) (ag:U<M) (_hVM:V<=M) (hb:b<=1) (h1:W / V<=guess) (h2:guess<=W / V+1) :
  (b=0->guess=W / V/\U=W % V)/\(b=1->guess=W / V+1/\U+V=W % V+M):=by
 have hd:=Nat.div_add_mod W V;have hm:=Nat.mod_lt W hpos;have e1:(W / V)*V=V*(W / V):=Nat.mul_comm ..;have e2:(W / V+1)*V=V*(W / V)+V:=by rw [Nat.add_mul,Nat.one_mul,e1]
 constructor
 ·intro h0;subst h0
  have hg:guess=W / V:=by
   rcases Nat.lt_or_ge (W / V) guess with h | h
   ·have:guess=W / V+1:=by omega
    rw [this,e2] at hU;omega
   ·omega
  refine ⟨hg,?_⟩;rw [hg,e1] at hU;omega
 ·intro h0;subst h0
  have hg:guess=W / V+1:=by
   rcases Nat.lt_or_ge (W / V) guess with h | h
   ·omega
   ·have:guess=W / V:=by omega
    rw [this,e1] at hU;omega
  refine ⟨hg,?_⟩;rw [hg,e2] at hU;omega
theorem vN {U V R Q u0:Nat} (h:U=V*Q+R) (x:Nat) (hx:x=u0+4294967296*R):u0+4294967296*U=V*(x / V+4294967296*Q)+x % V:=by
 have hd:=Nat.div_add_mod x V;rw [Nat.mul_add,show V*(4294967296*Q)=4294967296*(V*Q) by rw [Nat.mul_left_comm]];subst h;omega
theorem ws {a b q r n:Nat} (h:a*2^n=b*2^n*q+r) (hr:r<b*2^n):a / b=q/\r / 2^n=a % b:=by
 have hp:0<2^n:=Nat.pow_pos (by omega)
 obtain ⟨r',rfl⟩:∃ r',r=2^n*r':=by
  refine ⟨a - b*q,?_⟩;rw [Nat.mul_sub,Nat.mul_comm (2^n) a,h,show 2^n*(b*q)=b*2^n*q by rw [<-Nat.mul_assoc,Nat.mul_comm (2^n) b]];omega
 have h1:a=b*q+r':=by
  have:2^n*a=2^n*(b*q+r'):=by rw [Nat.mul_comm,h,Nat.mul_add,<-Nat.mul_assoc,Nat.mul_comm (2^n) b]
  exact Nat.eq_of_mul_eq_mul_left hp this
 have h2:r'<b:=by rw [Nat.mul_comm b] at hr;exact Nat.lt_of_mul_lt_mul_left hr
 obtain ⟨h3,h4⟩:=EY h1 h2;exact ⟨h3,by rw [Nat.mul_div_cancel_left _ hp,h4]⟩
theorem ww {l:List Nat} (hw:Wd l) {m:Nat} (hm:l.length=m+2):nv l=nv (l.take m)+4294967296^m*(l.getD m 0+4294967296*l.getD (m+1) 0)/\(l.getD m 0+4294967296*l.getD (m+1) 0)*4294967296^m<=nv l/\nv l<(l.getD m 0+4294967296*l.getD (m+1) 0+1)*4294967296^m:=by
 have h1:=mu l m (by omega);rw [iG (by omega),iG (by omega),kB (by omega)] at h1;simp only [Nat.mul_zero,Nat.add_zero] at h1;have h2:=kM (hw.take m);rw [List.length_take,Nat.min_eq_left (by omega)] at h2;refine ⟨h1,by rw [h1,Nat.mul_comm];omega,?_⟩;rw [Nat.add_mul,Nat.one_mul,Nat.mul_comm _ (4294967296^m)];omega
theorem mD {l:List Nat} (hw:Wd l) {m:Nat} (hm:l.length=m+1):nv l=nv (l.take m)+4294967296^m*l.getD m 0/\l.getD m 0*4294967296^m<=nv l/\nv l<(l.getD m 0+1)*4294967296^m:=by
 have h1:=mu l m (by omega);rw [iG (by omega),kB (by omega)] at h1;simp only [Nat.mul_zero,Nat.add_zero] at h1;have h2:=kM (hw.take m);rw [List.length_take,Nat.min_eq_left (by omega)] at h2;refine ⟨h1,by rw [h1,Nat.mul_comm];omega,?_⟩;rw [Nat.add_mul,Nat.one_mul,Nat.mul_comm _ (4294967296^m)];omega
structure Rw where
 neg:Bool
 num:List Nat
 den:List Nat
deriving DecidableEq
instance:Inhabited Rw:=⟨⟨false,[],[]⟩⟩
def Rw.Ok (r:Rw):Prop:=Wd r.num/\Wd r.den
def js (a:List Nat):Bool:=decide (0<a.length)&&(a.getD (a.length - 1) 0 != 0)
theorem nT {a:List Nat}:js a=true ↔ a≠[]/\Pl a:=by
 unfold js Pl;cases a with
 | nil=>simp
 | cons x l =>
  simp only [List.length_cons,Nat.zero_lt_succ,decide_true,Bool.true_and,ne_eq,reduceCtorEq,not_false_eq_true,true_and,List.getD_eq_getElem?_getD];constructor
  ·intro h _;rw [List.getLast_eq_getElem];simpa using h
  ·intro h;have:=h (by simp);rw [List.getLast_eq_getElem] at this;simpa using this
def iW (r:Rw):Bool:=if r.num=[]/\r.den=[] then !r.neg else js r.num&&js r.den&&(Nat.gcd (nv r.num) (nv r.den) == 1)
def sg (neg:Bool) (n:Nat):Int:=if neg=true then -(n:Int) else n
theorem xO (neg:Bool) (n:Nat):(sg neg n).natAbs=n:=by unfold sg;split <;> simp
theorem sY (neg:Bool):sg neg 0=0:=by unfold sg;split <;> simp
def gP (r:Rw):Bool × List Nat × List Nat:=if iW r=true/\r.num≠[] then (r.neg,r.num,r.den) else (false,[],[1])
def gT (r:Rw):Rat:=mkRat (sg (gP r).1 (nv (gP r).2.1)) (nv (gP r).2.2)
theorem tN {a:List Nat} (hw:Wd a) (h:js a=true):nv a≠0:=by
 obtain ⟨h1,h2⟩:=nT.1 h;intro h3;have:=Cs hw h2;rw [h3,jE] at this;exact h1 this.symm
theorem yS {n:Nat} (h:n≠0):js (nw n)=true:=nT.2 ⟨fun e=>h (kl.1 e),FL n⟩
theorem ij {r:Rw} (h:r.Ok):Wd (gP r).2.1/\Wd (gP r).2.2/\nv (gP r).2.2≠0/\Pl (gP r).2.1/\Pl (gP r).2.2:=by
 unfold gP;split
 ·rename_i hv;obtain ⟨hv,hn⟩:=hv;unfold iW at hv;rw [if_neg (fun e=>hn e.1)] at hv;simp only [Bool.and_eq_true] at hv;exact ⟨h.1,h.2,tN h.2 hv.1.2,(nT.1 hv.1.1).2,(nT.1 hv.1.2).2⟩
 ·exact ⟨Wd.nil,Wd.cons (by omega) Wd.nil,by simp [nv],fun h=>absurd rfl h,fun _=>by simp⟩
def gR (q:Rat):Rw:=if q.num=0 then ⟨false,[],[]⟩ else ⟨decide (q.num<0),nw q.num.natAbs,nw q.den⟩
def nt (neg:Bool) (n d:Nat):Rw:=if n=0 then ⟨false,[],[]⟩ else ⟨neg,nw (n / Nat.gcd n d),nw (d / Nat.gcd n d)⟩
theorem jA (neg:Bool) (n d:Nat) (hd:d≠0):nt neg n d=gR (mkRat (sg neg n) d):=by
 unfold nt gR;have e1:(mkRat (sg neg n) d).num=sg neg n / (d.gcd n:Nat):=by rw [Rat.num_mkRat,if_neg hd,xO]
 have e2:(mkRat (sg neg n) d).den=d / Nat.gcd n d:=by rw [Rat.den_mkRat,if_neg hd,xO,Nat.gcd_comm]
 have hg:0<Nat.gcd n d:=Nat.gcd_pos_of_pos_right _ (by omega);have ag:Nat.gcd n d ∣ n:=Nat.gcd_dvd_left ..
 have e3:sg neg n / (d.gcd n:Nat)=sg neg (n / Nat.gcd n d):=by
  rw [Nat.gcd_comm];unfold sg;split
  ·rw [Int.neg_ediv_of_dvd (Int.natCast_dvd_natCast.2 ag),<-Int.natCast_ediv]
  ·rw [<-Int.natCast_ediv]
 rw [e1,e2,e3];by_cases h0:n=0
 ·subst h0;simp [sY]
 ·have ah:n / Nat.gcd n d≠0:=by
   have:=Nat.div_pos (Nat.le_of_dvd (by omega) ag) hg;omega
  have h1:sg neg (n / Nat.gcd n d)≠0:=by unfold sg;split <;> omega
  rw [if_neg h0,if_neg h1,xO];congr 1;obtain ⟨m,hm⟩:∃ m,m=n / Nat.gcd n d:=⟨_,rfl⟩;rw [<-hm] at ah⊢;unfold sg;cases neg with
  | true=>simp;omega
  | false=>simp
theorem ls (q:Rat):(gR q).Ok:=by
 unfold gR;split
 ·exact ⟨Wd.nil,Wd.nil⟩
 ·exact ⟨lC _,lC _⟩
theorem nF (q:Rat):iW (gR q)=true:=by
 unfold gR;split
 ·rfl
 ·rename_i h;unfold iW;rw [if_neg (fun e=>by have:=kl.1 e.1;omega)];rw [yS (by omega),yS q.den_nz,gW,gW];have:=q.reduced;unfold Nat.Coprime at this;simp [this]
theorem gV (q:Rat):gT (gR q)=q:=by
 unfold gT gP;rw [nF];unfold gR;split
 ·rename_i h;simp only [ne_eq,not_true_eq_false,and_false,if_false];rw [jR,sY,Rat.zero_mkRat];exact (Rat.num_eq_zero.1 h).symm
 ·rename_i h;rw [if_pos ⟨rfl,fun e=>by have:=kl.1 e;omega⟩];simp only [gW]
  have e:sg (decide (q.num<0)) q.num.natAbs=q.num:=by
   unfold sg;by_cases h2:q.num<0
   ·simp [h2];omega
   ·simp [h2];omega
  rw [e,Rat.mkRat_self]
theorem JM (s:Bool) (a b:Nat):sg s (a+b)=sg s a+sg s b:=by unfold sg;split <;> omega
theorem JN (s t:Bool) (a b:Nat):sg (s != t) (a*b)=sg s a*sg t b:=by
 unfold sg;cases s <;> cases t <;> simp [Int.neg_mul,Int.mul_neg]
theorem JO (s:Bool) (a:Nat):sg (!s) a=- sg s a:=by unfold sg;cases s <;> simp
theorem JP {s t:Bool} (h:s≠t) {a b:Nat} (hab:b<=a):sg s (a - b)=sg s a+sg t b:=by
 unfold sg;cases s <;> cases t <;> simp at h⊢ <;> omega
theorem Iv {s t:Bool} (h:s≠t) {a b:Nat} (hab:a<=b):sg t (b - a)=sg s a+sg t b:=by
 unfold sg;cases s <;> cases t <;> simp at h⊢ <;> omega
theorem nB (s:Bool) (a b:Nat):sg s (a*b)=sg s a*(b:Int):=by unfold sg;split <;> simp [Int.neg_mul]
def mV (x:Nat):Value:=.int .u32 (x:Int)
def WdsAt (w:World) (v:Value) (xs:List Nat):Prop :=
 ∃ (a:Option Addr) (c:Nat),v=.slice a xs.length c/\(xs.length<=c/\(a=none->c=0))/\xs.length<=1099511627776/\Wd xs /\
  ∀ i (_:i<xs.length),∃ b o,a=some ⟨b,o,none⟩/\w.cell? ⟨b,o+i,none⟩=some (.int .u32 ((xs.getD i 0:Nat):Int))
theorem WdsAt.kept {w w':World} {v:Value} {xs:List Nat} (h:WdsAt w v xs) (hk:gO w w'):WdsAt w' v xs:=by
 obtain ⟨a,c,h1,h2,h3,h4,h5⟩:=h;exact ⟨a,c,h1,h2,h3,h4,fun i hi=>let ⟨b,o,h6,h7⟩:=h5 i hi;⟨b,o,h6,hk.cell h7⟩⟩
theorem WdsAt.wd {w:World} {v:Value} {xs:List Nat} (h:WdsAt w v xs):Wd xs:=by obtain ⟨_,_,_,_,_,h,_⟩:=h;exact h
theorem WdsAt.len {w:World} {v:Value} {xs:List Nat} (h:WdsAt w v xs):xs.length<=1099511627776:=by obtain ⟨_,_,_,_,h,_⟩:=h;exact h
theorem WdsAt.shape {w:World} {v:Value} {xs:List Nat} (h:WdsAt w v xs):∃ a c,v=.slice a xs.length c:=by obtain ⟨a,c,h,_⟩:=h;exact ⟨a,c,h⟩
theorem WdsAt.nil (w:World):WdsAt w (.slice none 0 0) []:=⟨none,0,rfl,⟨by simp,fun _=>rfl⟩,by simp,Wd.nil,fun i h=>by simp at h⟩
theorem WdsAt.get {w:World} {a:Option Addr} {n c:Nat} {xs:List Nat} (h:WdsAt w (.slice a n c) xs) (i:Nat) (hi:i<xs.length):∃ b o,a=some ⟨b,o,none⟩/\w.cell? ⟨b,o+i,none⟩=some (.int .u32 ((xs.getD i 0:Nat):Int)):=by
 obtain ⟨a',c',h1,_,_,_,h5⟩:=h;injection h1 with h1
 subst h1;exact h5 i hi
theorem WdsAt.take {w:World} {a:Option Addr} {n c:Nat} {xs:List Nat} (h:WdsAt w (.slice a n c) xs) (k:Nat) (hk:k<=xs.length):WdsAt w (.slice a k c) (xs.take k):=by
 obtain ⟨a',c',h1,h2,h3,h4,h5⟩:=h;injection h1 with h1 h6 h7
 subst h1 h7;have hl:(xs.take k).length=k:=by rw [List.length_take];omega
 refine ⟨a,c,by rw [hl],⟨by omega,h2.2⟩,by omega,h4.take k,fun i hi=>?_⟩;obtain ⟨b,o,h8,h9⟩:=h5 i (by omega);exact ⟨b,o,h8,by rw [jQ (by omega)];exact h9⟩
theorem WdsAt.drop {w:World} {b o n c:Nat} {xs:List Nat} (h:WdsAt w (.slice (some ⟨b,o,none⟩) n c) xs) (k:Nat) (hk:k<=xs.length):WdsAt w (.slice (some ⟨b,o+k,none⟩) (n - k) (c - k)) (xs.drop k):=by
 obtain ⟨a',c',h1,h2,h3,h4,h5⟩:=h;injection h1 with h1 h6 h7
 subst h1 h7;have hl:(xs.drop k).length=n - k:=by rw [List.length_drop];omega
 refine ⟨_,c - k,by rw [hl],⟨by omega,fun h=>by cases h⟩,by omega,h4.drop k,fun i hi=>⟨b,o+k,rfl,?_⟩⟩;obtain ⟨b2,o2,h8,h9⟩:=h5 (k+i) (by omega);cases h8;rw [kV,Nat.add_assoc];exact h9
def iO (w:World) (B:Nat) (v:Value) (xs:List Nat):Prop :=
 w.ownsRow B 70 1 v xs.length (xs.map mV)/\xs.length<=1099511627776/\Wd xs
theorem iO.at {w:World} {B:Nat} {v:Value} {xs:List Nat} (h:iO w B v xs):WdsAt w v xs:=by
 obtain ⟨⟨h1,h2⟩,h3,h3'⟩:=h;rcases h2 with ⟨rfl,h4⟩ | ⟨g,cap,cur,rfl,h5,h6,h7,h8,h9,ag⟩
 ·have:xs=[]:=List.eq_nil_of_length_eq_zero h4
  subst this;exact WdsAt.nil w
 ·refine ⟨_,cap,rfl,⟨h7,fun h=>by cases h⟩,h3,h3',fun i hi=>⟨g,0,rfl,?_⟩⟩;have e1:(cur.toList.take (xs.length*1))[i]?=(xs.map mV)[i]?:=by rw [ag]
  rw [List.getElem?_take_of_lt (by omega)] at e1;simp only [World.cell?,h6,Nat.zero_add];simpa [hi,mV,List.getD_eq_getElem?_getD] using e1
theorem iO.kept {w w':World} {B:Nat} {v:Value} {xs:List Nat} (h:iO w B v xs) (hb:gO w w'):iO w' B v xs:=⟨lT h.1 hb,h.2⟩
theorem iO.nil (w:World) (B:Nat):iO w B (.slice none 0 0) []:=⟨World.ownsRow_nil _ _ _ _,by simp,Wd.nil⟩
theorem iO.mono {w:World} {B B':Nat} {v:Value} {xs:List Nat} (h:iO w B v xs) (hb:B'<=B):iO w B' v xs:=⟨nz h.1 hb,h.2⟩
theorem jM (w:World) (B:Nat) (hB:B<=w.heap.size):iO (w.alloc (.cells #[] 70)) B (.slice (some ⟨w.heap.size,0,none⟩) 0 0) [] :=
 ⟨⟨by simp,.inr ⟨w.heap.size,0,#[],rfl,hB,heap_alloc_new w _,Nat.le_refl _,by unfold maxLen;omega,by simp,by simp⟩⟩,by simp,Wd.nil⟩
theorem kf:(Tryz.prog.info? 70).map (fun i=>(i.zero,i.size,i.bytes))=some (some (.int .u32 0),1,4):=by kernel_rfl
theorem wI {ops:Array Oper} {rest:List Oper} {o:Oper} {a:Act} {Q:Exit->Act->World->Prop} {w:World} (ai:o.guard=none) (s x:Operand)
  (ho:o.op=.call { callee:=.builtin .append,args:=#[s,x],argTypes:=#[27,27] }) (B:Nat) (v:Value) (xs:List Nat) (hs:a.eval s=v) (ag:iO w B v xs)
  (u:Value) (ys:List Nat) (hx:a.eval x=u) (hu:WdsAt w u ys) (hl:xs.length+ys.length<=1099511627776) (hB:B<=w.heap.size)
  (h:∀ v' w',iO w' B v' (xs++ys)->Below B w w'->wpList Tryz.prog ops Q rest (a.put o.dst v') w'):wpList Tryz.prog ops Q (o :: rest) a w:=by
 obtain ⟨i0,aj,al,am,ap⟩:=info_parts kf;obtain ⟨ad,c,rfl,⟨hc,aq⟩,ar,hw,ah⟩:=hu;cases ad with
 | none =>
  have hy:ys=[]:=by
   cases ys with
   | nil=>rfl
   | cons y ys=>obtain ⟨b,o,h,_⟩:=ah 0 (by simp);cases h
  subst hy;rw [aq rfl] at hx;refine wpList_append_own_none ai s x 27 ho B 70 i0 1 Tryz.underlying27 aj v xs.length _ hs ag.1 hx ?_;exact h v w (by simpa using ag) (Below.refl _ _)
 | some ad =>
  refine wpList_append_own _ ai s x 27 ho B 70 i0 _ 1 4 Tryz.underlying27 aj al am ap rfl (by decide) v xs.length _ hs ag.1 ad ys.length c (ys.map mV) hx (by simp) ?_ ?_ (by simp [maxLen];omega) (by omega) hB ?_
  ·intro j u hj
   have hj':j<ys.length:=by
    rcases Nat.lt_or_ge j ys.length with h | h
    ·exact h
    ·rw [List.getElem?_eq_none (by simpa using h)] at hj;cases hj
   obtain ⟨b,o,h5,h6⟩:=ah j hj';cases h5;simp [hj',mV] at hj;subst hj;rw [show ({ block:=b,off:=o }:Addr).add j=⟨b,o+j,none⟩ by unfold Addr.add;split <;> simp_all,h6];simp [List.getD_eq_getElem?_getD,hj']
  ·intro u hu;obtain ⟨y,_,rfl⟩:=List.mem_map.1 hu;rfl
  ·intro v' w' h5 h6 _;exact h v' w' ⟨by simpa using h5,by simp;omega,ag.2.2.app hw⟩ (iD h6 ag.1 hB)
theorem pB {ops:Array Oper} {rest:List Oper} {o:Oper} {a:Act} {Q:Exit->Act->World->Prop} {w:World} (ah:o.guard=none) (s x:Operand)
  (ho:o.op=.call { callee:=.builtin .append,args:=#[s,x],argTypes:=#[27,27] }) (B:Nat) (v:Value) (xs:List Nat) (hs:a.eval s=v) (ag:iO w B v xs)
  (ad:Addr) (y:Nat) (hx:a.eval x=.slice (some ad) 1 1) (hc:w.cell? ad=some (.int .u32 (y:Int))) (hy:y<4294967296) (hl:xs.length<1099511627776) (hB:B<=w.heap.size)
  (h:∀ v' w',iO w' B v' (xs++[y])->Below B w w'->wpList Tryz.prog ops Q rest (a.put o.dst v') w'):wpList Tryz.prog ops Q (o :: rest) a w:=by
 refine sT 27 70 _ 4 kf Tryz.underlying27 rfl ah s x ho B v (xs.map mV) hs (by simpa using ag.1) ad _ hx hc rfl (by simp;omega) (by simp [maxLen];omega) hB ?_;intro v' w' h2 h3 h4;exact h v' w' ⟨by simpa [mV] using h2,by simp;omega,ag.2.2.app (Wd.cons hy Wd.nil)⟩ h4
theorem l' {w:World} {g:Nat} {xs:List Nat} {c:Nat} (h:gS w g 70 (xs.map mV)) (hc:xs.length<=c) (hl:xs.length<=1099511627776) (hw:Wd xs):WdsAt w (.slice (some ⟨g,0,none⟩) xs.length c) xs :=
 ⟨_,c,rfl,⟨hc,fun h=>by cases h⟩,hl,hw,fun i hi=>⟨g,0,rfl,by have:=h.cell (i:=i) (by simpa using hi);simpa [mV,List.getD_eq_getElem?_getD,hi] using this⟩⟩
theorem iR {w:World} {g:Nat} {xs:List Nat} (h:gS w g 70 (xs.map mV)) (i x:Nat):gS (w.setCell ⟨g,i,none⟩ (.int .u32 (x:Int))) g 70 ((xs.set i x).map mV):=by
 have:=h.store i (mV x)
 rwa [<-List.map_set] at this
theorem iT {w:World} {g:Nat} {xs:List Nat} (h:gS w g 70 (xs.map mV)) (i:Nat) (hi:i<xs.length):w.cell? ⟨g,i,none⟩=some (.int .u32 ((xs.getD i 0:Nat):Int)):=by
 have:=h.cell (i:=i) (by simpa using hi);simpa [mV,List.getD_eq_getElem?_getD,hi] using this
end Go.Proofs.YtofibjflkebkpaaGreatDoor
