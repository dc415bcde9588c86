import Derived.Test.YtofibjflkebkpaaGreatDoorEQ2
import Derived.Shelf.SlSortCmp.PdqK
import Derived.Test.YtofibjflkebkpaaGreatDoorProg
import Derived.Deep.DeepCutAuto
import Derived.Lib.ItoaNum
import Derived.Deep.LoopGhost
set_option maxRecDepth 100000
set_option maxHeartbeats 16000000
namespace Go.Proofs.YtofibjflkebkpaaGreatDoor
open Go.RowKit
section
open Go.Shelf Go.RowKit Go.Lib Go.Sort
def iJ (c:Nat):List Value:=[.int .i64 (iM c),.int .u64 (jK c),.int .u64 (jF c)]
def nO (c:Nat):Nat:=c % 5708990770823839524233143877797980545530986496
theorem sV (c:Nat):ie 152 (nO c):=xI (Nat.lt_of_lt_of_le (Nat.mod_lt _ (by decide)) (by decide))
theorem xb {c:Nat} (h:ie 152 c):nO c=c:=Nat.mod_eq_of_lt (Nat.lt_of_lt_of_le (nA h) (by decide))
def jv (c:Nat):List Value:=iJ (nO c)
def pF (a b:Nat):Int:=(pc (nO a):Int) - (pc (nO b):Int)
theorem Kt (a b:Nat):ltOf pF a b=decide (pc (nO a)<pc (nO b)):=by
 unfold ltOf pF;rw [decide_eq_decide];omega
theorem JQ:SWO (ltOf pF) where
 irrefl x:=by rw [Kt];simp
 trans x y z h1 h2:=by rw [Kt] at *;simp at *;omega
 ntrans x y z h1 h2:=by rw [Kt] at *;simp at *;omega
theorem nk (w:World) (C:Obj) (n:Nat):(w.alloc C).drewN n=grow (w.drewN n) #[C]:=by
 rw [alloc_eq_grow];rfl
theorem Fk (W:World) (X Y:Obj) (n:Nat) (os:Array Obj):grow (((W.alloc X).alloc Y).drewN n) os=grow (W.drewN n) (#[X]++(#[Y]++os)):=by
 rw [alloc_eq_grow,alloc_eq_grow];show grow (grow (grow (W.drewN n) #[X]) #[Y]) os=_;rw [grow_grow,grow_grow]
theorem Fr (x y:Nat) (W:World):Calls Tryz.prog 188 #[.agg (jv x).toArray,.agg (jv y).toArray] W fun e w'=>e=.returned (.int .i64 (pF x y))/\∃ q os',w'=grow (W.drewN q) os':=by
 have hx:∀ W',Calls Tryz.prog 189 #[.agg (jv x).toArray] W' fun e w'=>e=.returned (.int .i64 (pc (nO x)))/\∃ q os',w'=grow (W'.drewN q) os':=fun W'=>(wg (sV x) W').mono fun _ _ ⟨h1,C,n,h2⟩=>⟨h1,n,_,h2.trans (nk W' C n)⟩
 have hy:∀ W',Calls Tryz.prog 189 #[.agg (jv y).toArray] W' fun e w'=>e=.returned (.int .i64 (pc (nO y)))/\∃ q os',w'=grow (W'.drewN q) os':=fun W'=>(wg (sV y) W').mono fun _ _ ⟨h1,C,n,h2⟩=>⟨h1,n,_,h2.trans (nk W' C n)⟩
 have bx:=yU 152 (nO x) (nA (sV x));have by':=yU 152 (nO y) (nA (sV y))
 unfold pF;unfold jv iJ at *;generalize pc (nO x)=px at *;generalize pc (nO y)=py at *;generalize iM (nO x)=x0 at *;generalize jK (nO x)=x1 at *;generalize jF (nO x)=x2 at *;generalize iM (nO y)=y0 at *;generalize jK (nO y)=y1 at *;generalize jF (nO y)=y2 at *;have w1:IntKind.i64.wrap ((px:Int) - (py:Int))=(px:Int) - (py:Int):=by rw [IntKind.wrap_i64];omega
 have mixed:Tryz.prog.follows .mixedOrders=true:=by kernel_rfl
 have cx:∀ n os,(grow ((((W.alloc (.cells #[.int .i64 x0,.int .u64 x1,.int .u64 x2] 99)).alloc (.cells #[.int .i64 y0,.int .u64 y1,.int .u64 y2] 99))).drewN n) os).cell? ⟨W.heap.size,0,none⟩=some (.int .i64 x0)/\(grow ((((W.alloc (.cells #[.int .i64 x0,.int .u64 x1,.int .u64 x2] 99)).alloc (.cells #[.int .i64 y0,.int .u64 y1,.int .u64 y2] 99))).drewN n) os).cell? ⟨W.heap.size,1,none⟩=some (.int .u64 x1)/\(grow ((((W.alloc (.cells #[.int .i64 x0,.int .u64 x1,.int .u64 x2] 99)).alloc (.cells #[.int .i64 y0,.int .u64 y1,.int .u64 y2] 99))).drewN n) os).cell? ⟨W.heap.size,2,none⟩=some (.int .u64 x2):=fun n os=>by
  refine ⟨?_,?_,?_⟩ <;> (rw [cell?_grow _ _ _ (by simp;omega)];simp)
 have cy:∀ n os,(grow ((((W.alloc (.cells #[.int .i64 x0,.int .u64 x1,.int .u64 x2] 99)).alloc (.cells #[.int .i64 y0,.int .u64 y1,.int .u64 y2] 99))).drewN n) os).cell? ⟨W.heap.size+1,0,none⟩=some (.int .i64 y0)/\(grow ((((W.alloc (.cells #[.int .i64 x0,.int .u64 x1,.int .u64 x2] 99)).alloc (.cells #[.int .i64 y0,.int .u64 y1,.int .u64 y2] 99))).drewN n) os).cell? ⟨W.heap.size+1,1,none⟩=some (.int .u64 y1)/\(grow ((((W.alloc (.cells #[.int .i64 x0,.int .u64 x1,.int .u64 x2] 99)).alloc (.cells #[.int .i64 y0,.int .u64 y1,.int .u64 y2] 99))).drewN n) os).cell? ⟨W.heap.size+1,2,none⟩=some (.int .u64 y2):=fun n os=>by
  refine ⟨?_,?_,?_⟩ <;> (rw [cell?_grow _ _ _ (by simp)];simp)
 have HX:Hid _:=hx;have HY:Hid _:=hy;clear hx hy;show Calls Tryz.prog 188 #[.agg #[.int .i64 x0,.int .u64 x1,.int .u64 x2],.agg #[.int .i64 y0,.int .u64 y1,.int .u64 y2]] W _;go_enter Tryz.func188,Tryz.ntmps188;go_wp2;go_quiet_grown (first | (go_at_call 189;(with_reducible refine Calls.grown_of (HX.out _))) | (go_at_call 189;(with_reducible refine Calls.grown_of (HY.out _))));go_wp2;go_ret;exact ⟨rfl,nq,_,Fk _ _ _ _ _⟩
end
section
open Go.Shelf Go.RowKit Go.Lib Go.Sort
structure JY (P:Program) (k:Nat):Prop where
 mixed:P.follows .mixedOrders=true
 g148:P.funcs[272]?=some Tryz.f272
 g147:P.funcs[267]?=some Tryz.f267
 g145:P.funcs[261]?=some Tryz.f261
 t0:P.underlying 0=some (TypeDesc.tuple #[])
 a0:∀ (w:World),Sem.run P (isAgg 0) w=Result.ok false w
 z0:∀ (w:World),Sem.run P (Go.sizeOf 0) w=Result.ok 1 w
 v0:∀ (w:World),Sem.run P (zeroValue 0) w=Result.ok (Value.tuple #[]) w
 t3:P.underlying 3=some (TypeDesc.int IntKind.i64)
 a3:∀ (w:World),Sem.run P (isAgg 3) w=Result.ok false w
 z3:∀ (w:World),Sem.run P (Go.sizeOf 3) w=Result.ok 1 w
 v3:∀ (w:World),Sem.run P (zeroValue 3) w=Result.ok (Value.int IntKind.i64 0) w
 t4:P.underlying 4=some TypeDesc.bool
 a4:∀ (w:World),Sem.run P (isAgg 4) w=Result.ok false w
 z4:∀ (w:World),Sem.run P (Go.sizeOf 4) w=Result.ok 1 w
 v4:∀ (w:World),Sem.run P (zeroValue 4) w=Result.ok (Value.bool false) w
 tu:P.underlying 151=some (TypeDesc.int IntKind.u64)
 au:∀ (w:World),Sem.run P (isAgg 151) w=Result.ok false w
 zu:∀ (w:World),Sem.run P (Go.sizeOf 151) w=Result.ok 1 w
 vu:∀ (w:World),Sem.run P (zeroValue 151) w=Result.ok (Value.int IntKind.u64 0) w
 t22:P.underlying 93=some (TypeDesc.slice 99)
 a22:∀ (w:World),Sem.run P (isAgg 93) w=Result.ok false w
 z22:∀ (w:World),Sem.run P (Go.sizeOf 93) w=Result.ok 1 w
 v22:∀ (w:World),Sem.run P (zeroValue 93) w=Result.ok (Value.slice none 0 0) w
 t25:P.underlying 196=some (TypeDesc.func #[99,99] #[3] false)
 a25:∀ (w:World),Sem.run P (isAgg 196) w=Result.ok false w
 z25:∀ (w:World),Sem.run P (Go.sizeOf 196) w=Result.ok 1 w
 v25:∀ (w:World),Sem.run P (zeroValue 196) w=Result.ok Value.nilFunc w
 aE:∀ (w:World),Sem.run P (isAgg 99) w=Result.ok true w
 zE:∀ (w:World),Sem.run P (Go.sizeOf 99) w=Result.ok k w
theorem Lt:JY Tryz.prog 3 where
 mixed:=by kernel_rfl
 g148:=Tryz.func272
 g147:=Tryz.func267
 g145:=Tryz.func261
 t0:=Tryz.underlying0
 a0:=Tryz.isAgg0
 z0:=Tryz.sizeOf0
 v0:=Tryz.zeroValue0
 t3:=Tryz.underlying3
 a3:=Tryz.isAgg3
 z3:=Tryz.sizeOf3
 v3:=Tryz.zeroValue3
 t4:=Tryz.underlying4
 a4:=Tryz.isAgg4
 z4:=Tryz.sizeOf4
 v4:=Tryz.zeroValue4
 tu:=Tryz.underlying151
 au:=Tryz.isAgg151
 zu:=Tryz.sizeOf151
 vu:=Tryz.zeroValue151
 t22:=Tryz.underlying93
 a22:=Tryz.isAgg93
 z22:=Tryz.sizeOf93
 v22:=Tryz.zeroValue93
 t25:=Tryz.underlying196
 a25:=Tryz.isAgg196
 z25:=Tryz.sizeOf196
 v25:=Tryz.zeroValue196
 aE:=Tryz.isAgg99
 zE:=Tryz.sizeOf99
section
variable {P:Program} {α:Type} [Inhabited α]
theorem zN (k:Nat) (L:JY P k) (enc:α->List Value) (g:Nat) (cb:Array Value) (blk off cap a b n:Nat) (d0 d:Array α) (w0 w:World)
  (R:RowK enc k w0 blk off d0) (hs:d0.size=d.size) (S:SWK enc k w0 blk off d w) (hab:a+n<=b) (hb:b+n<=d.size) (hsz:d.size<4611686018427387904) :
  Calls P 272 #[.slice (some ⟨blk,off,none⟩) d.size cap,.int .i64 a,.int .i64 b,.int .i64 n,.func (.func g) #[] cb] w fun e w'=>e=.returned (.tuple #[])/\∃ dn,Ew a b n d dn/\SWK enc k w0 blk off dn w':=by
 have mixed:=L.mixed;have t0:=L.t0;have a0:=L.a0;have z0:=L.z0;have v0:=L.v0;have t3:=L.t3;have a3:=L.a3;have z3:=L.z3;have v3:=L.v3;have t4:=L.t4;have a4:=L.a4;have z4:=L.z4;have v4:=L.v4;have t22:=L.t22;have a22:=L.a22;have z22:=L.z22;have v22:=L.v22;have t25:=L.t25;have a25:=L.a25;have z25:=L.z25;have v25:=L.v25;have aE:=L.aE;have zE:=L.zE;have FG:=L.g148;have S0:Aside (SWK enc k w0 blk off d w):=S;clear S L;go_enter FG,Tryz.ntmps272;go_wp2;go_loopg [10] n (fun kx s10 wr=>∃ (q:Nat) (dk:Array α),s10=.int .i64 q/\q<=n/\n - q<=kx/\dk.size=d.size/\Aside (SWK enc k w0 blk off dk wr)/\Hid (Ew a b q d dk))
 case atStart=>exact ⟨0,d,rfl,Nat.zero_le _,by omega,rfl,S0,af (Ew.start a b d)⟩
 case round =>
  clear S0;obtain ⟨q,dk,rfl,hq,al,ai,S1,HW⟩:=hrel;by_cases am:q<n
  ·have ag:(q:Int)<(n:Int):=by omega
   go_wp2_with fail;have wa:IntKind.i64.wrap ((a:Int)+(q:Int))=((a+q:Nat):Int):=by rw [IntKind.wrap_i64];omega
   have wa':(a:Int)+(q:Int)=((a+q:Nat):Int):=by omega
   have wb:IntKind.i64.wrap ((b:Int)+(q:Int))=((b+q:Nat):Int):=by rw [IntKind.wrap_i64];omega
   have wb':(b:Int)+(q:Int)=((b+q:Nat):Int):=by omega
   obtain ⟨x,hx⟩:∃ x,x=a+q:=⟨_,rfl⟩;obtain ⟨y,hy⟩:∃ y,y=b+q:=⟨_,rfl⟩;have ah:Hid (x=a+q/\y=b+q):=⟨hx,hy⟩;rw [<-hx] at wa wa';rw [<-hy] at wb wb';have ap:x<d.size:=by omega
   have aq:y<d.size:=by omega
   clear hx hy;have ea44:((x:Int)).toNat=x:=by omega
   have pa44:(0:Int)<=(x:Int):=by omega
   have ba44:(x:Int)<(d.size:Int):=by omega
   have ec44:((y:Int)).toNat=y:=by omega
   have pc44:(0:Int)<=(y:Int):=by omega
   have bc44:(y:Int)<(d.size:Int):=by omega
   have S2:Aside (SWK enc k w0 blk off (swp dk x y) ((wr.drew.setCells blk (off+x*k) (enc dk[y]!)).setCells blk (off+y*k) (enc dk[x]!))):=S1.out.swapped R x y (by omega) (by omega);have l44a:=S1.out.ld1 R (by omega) P x (by omega);have l44b:=S1.out.ld1 R (by omega) P y (by omega);have s44a:=S1.out.st1 R (by omega) P x (by omega) dk[y]!;have s44b:=S1.out.st2 R (by omega) P x y (by omega) (by omega) dk[y]! dk[x]!;have n44a:(enc dk[x]!).length=k:=R.hk _;have n44b:(enc dk[y]!).length=k:=R.hk _;generalize enc dk[x]! = cI44 at S2 l44a s44b n44a;generalize enc dk[y]! = cJ44 at S2 l44b s44a s44b n44b;clear S1;go_big_region_o;clear l44a l44b s44a s44b;generalize (wr.drew.setCells blk (off+x*k) cJ44).setCells blk (off+y*k) cI44=w2 at S2⊢;go_wp2;go_roundg (n - (q+1))
   case measure=>omega
   case rel=>exact ⟨q+1,swp dk x y,by go_num,by omega,Nat.le_refl _,by rw [Go.Sort.size_swp];exact ai,S2,by rw [ah.out.1,ah.out.2];exact af (HW.out.step (by omega) (by omega))⟩
  ·have ag:¬ (q:Int)<(n:Int):=by omega
   have aj:q=n:=by omega
   subst aj;go_wp2;go_end0;exact ⟨rfl,dk,HW.out,S1.out⟩
theorem Gy (k:Nat) (L:JY P k) (enc:α->List Value) (g:Nat) (cb:Array Value) (blk off cap a m b:Nat) (d0 d:Array α) (w0 w:World)
  (R:RowK enc k w0 blk off d0) (hs:d0.size=d.size) (S:SWK enc k w0 blk off d w) (aD:a<m) (aF:m<b) (hb:b<=d.size) (hsz:d.size<4611686018427387904) :
  Calls P 267 #[.slice (some ⟨blk,off,none⟩) d.size cap,.int .i64 a,.int .i64 m,.int .i64 b,.func (.func g) #[] cb] w fun e w'=>e=.returned (.tuple #[])/\∃ dn,rf a m b d dn/\SWK enc k w0 blk off dn w':=by
 have t0:=L.t0;have a0:=L.a0;have z0:=L.z0;have v0:=L.v0;have t3:=L.t3;have a3:=L.a3;have z3:=L.z3;have v3:=L.v3;have t4:=L.t4;have a4:=L.a4;have z4:=L.z4;have v4:=L.v4;have t22:=L.t22;have a22:=L.a22;have z22:=L.z22;have v22:=L.v22;have t25:=L.t25;have a25:=L.a25;have z25:=L.z25;have v25:=L.v25;have FG:=L.g147;have e148:∀ args w,(callFunc 272 args).run P w=.ok (.enter 272 args) w:=enters_of L.g148 (by kernel_rfl) rfl
 have ap:Hid (∀ (a b n:Nat) (dk:Array α) (wr:World),d0.size=dk.size->SWK enc k w0 blk off dk wr->a+n<=b->b+n<=dk.size->dk.size<4611686018427387904 ->
  Calls P 272 #[.slice (some ⟨blk,off,none⟩) dk.size cap,.int .i64 a,.int .i64 b,.int .i64 n,.func (.func g) #[] cb] wr fun e w'=>e=.returned (.tuple #[])/\∃ dn,Ew a b n dk dn/\SWK enc k w0 blk off dn w') :=
  af fun a b n dk wr h1 h2 h3 h4 h5=>zN k L enc g cb blk off cap a b n d0 dk w0 wr R h1 h2 h3 h4 h5
 have S0:Aside (SWK enc k w0 blk off d w):=S;clear S L;have wi:IntKind.i64.wrap ((m:Int) - (a:Int))=((m - a:Nat):Int):=by rw [IntKind.wrap_i64];omega
 have wi':(m:Int) - (a:Int)=((m - a:Nat):Int):=by omega
 have wj:IntKind.i64.wrap ((b:Int) - (m:Int))=((b - m:Nat):Int):=by rw [IntKind.wrap_i64];omega
 have wj':(b:Int) - (m:Int)=((b - m:Nat):Int):=by omega
 go_enter FG,Tryz.ntmps267;go_wp2;clear wi wi' wj wj';go_loopg [10,11] (b - a) (fun kx s10 s11 wr=>∃ (i j:Nat) (dk:Array α),s10=.int .i64 i/\s11=.int .i64 j/\0<i/\0<j/\i+j<=kx/\dk.size=d.size/\Aside (SWK enc k w0 blk off dk wr)/\Hid (om a m b d i j dk))
 case atStart=>exact ⟨m - a,b - m,d,rfl,rfl,by omega,by omega,by omega,rfl,S0,af (om.start d (by omega) (by omega))⟩
 case round =>
  clear S0;obtain ⟨i,j,dk,rfl,rfl,hi,hj,aG,al,S1,HW⟩:=hrel;have aq:=HW.out.2.2.1;have ar:=HW.out.2.2.2.1;have aw:=HW.out.2.2.2.2;rcases Nat.lt_trichotomy i j with aA | heq | hgt
  ·have q1:((i:Int) == (j:Int))=false:=by simp;omega
   have q2:¬ (j:Int)<(i:Int):=by omega
   have q3:((i:Int) != (j:Int))=true:=by simp;omega
   obtain ⟨p1,ag⟩:∃ x,x=m - i:=⟨_,rfl⟩;obtain ⟨p2,aB⟩:∃ x,x=m+j:=⟨_,rfl⟩;obtain ⟨p3,ay⟩:∃ x,x=m+j - i:=⟨_,rfl⟩;obtain ⟨p4,am⟩:∃ x,x=j - i:=⟨_,rfl⟩;have u1:IntKind.i64.wrap ((m:Int) - (i:Int))=(p1:Int):=by rw [IntKind.wrap_i64];omega
   have u1':(m:Int) - (i:Int)=(p1:Int):=by omega
   have u2':(m:Int)+(j:Int)=(p2:Int):=by omega
   have u3':(p2:Int) - (i:Int)=(p3:Int):=by omega
   have u4:IntKind.i64.wrap ((j:Int) - (i:Int))=(p4:Int):=by rw [IntKind.wrap_i64];omega
   have u4':(j:Int) - (i:Int)=(p4:Int):=by omega
   have hc:=ap.out (m - i) (m+j - i) i dk wr (by omega) S1.out (by omega) (by omega) (by omega);have HN:=af (fun dn h=>HW.out.left hb aA (dn:=dn) h);rw [al,<-ag,<-ay] at hc;rw [<-ag,<-ay,<-am] at HN;have HC:=af hc;have ah:0<p4:=by omega
   have aC:p4<j:=by omega
   have b2:(p2:Int)<4611686018427387904:=by omega
   have b3:(p3:Int)<4611686018427387904:=by omega
   clear aq ar aw hc ag aB ay am S1 al HW;go_wp2_with (go_at_fn 272;refine HC.out.mono ?_;rintro e w2 ⟨rfl,dn,ai,aj⟩);have HR:=af (HN.out dn ai);have az:=HR.out.1.1;have S2:Aside (SWK enc k w0 blk off dn w2):=aj;clear ai aj HC HN u1 u1' u2' u3';go_wp2;clear u4 u4';go_roundg (i+p4)
   case measure=>omega
   case rel=>exact ⟨i,p4,dn,rfl,rfl,hi,ah,Nat.le_refl _,az,S2,HR⟩
  ·subst heq;have q1:((i:Int) == (i:Int))=true:=by simp
   have q3:((i:Int) != (i:Int))=false:=by simp
   obtain ⟨p1,ag⟩:∃ x,x=m - i:=⟨_,rfl⟩;have u1:IntKind.i64.wrap ((m:Int) - (i:Int))=(p1:Int):=by rw [IntKind.wrap_i64];omega
   have u1':(m:Int) - (i:Int)=(p1:Int):=by omega
   have hc:=ap.out (m - i) m i dk wr (by omega) S1.out (by omega) (by omega) (by omega);have HN:=af (fun dn h=>HW.out.done hb (dn:=dn) h);rw [al,<-ag] at hc;rw [<-ag] at HN;have HC:=af hc;clear aq ar aw hc ag S1 al HW;go_wp2_with (go_at_fn 272;refine HC.out.mono ?_;rintro e w2 ⟨rfl,dn,ai,aj⟩);go_end0;exact ⟨rfl,dn,HN.out dn ai,aj⟩
  ·have q1:((i:Int) == (j:Int))=false:=by simp;omega
   have q2:(j:Int)<(i:Int):=by omega
   have q3:((i:Int) != (j:Int))=true:=by simp;omega
   obtain ⟨p1,ag⟩:∃ x,x=m - i:=⟨_,rfl⟩;obtain ⟨p4,am⟩:∃ x,x=i - j:=⟨_,rfl⟩;have u1:IntKind.i64.wrap ((m:Int) - (i:Int))=(p1:Int):=by rw [IntKind.wrap_i64];omega
   have u1':(m:Int) - (i:Int)=(p1:Int):=by omega
   have u4:IntKind.i64.wrap ((i:Int) - (j:Int))=(p4:Int):=by rw [IntKind.wrap_i64];omega
   have u4':(i:Int) - (j:Int)=(p4:Int):=by omega
   have hc:=ap.out (m - i) m j dk wr (by omega) S1.out (by omega) (by omega) (by omega);have HN:=af (fun dn h=>HW.out.right hb hgt (dn:=dn) h);rw [al,<-ag] at hc;rw [<-ag,<-am] at HN;have HC:=af hc;have ah:0<p4:=by omega
   have aC:p4<i:=by omega
   clear aq ar aw hc ag am S1 al HW;go_wp2_with (go_at_fn 272;refine HC.out.mono ?_;rintro e w2 ⟨rfl,dn,ai,aj⟩);have HR:=af (HN.out dn ai);have az:=HR.out.1.1;have S2:Aside (SWK enc k w0 blk off dn w2):=aj;clear ai aj HC HN u1 u1' u4 u4';go_wp2;go_roundg (p4+j)
   case measure=>omega
   case rel=>exact ⟨p4,j,dn,rfl,rfl,ah,hj,Nat.le_refl _,az,S2,HR⟩
end
end
section
open Go.Shelf Go.RowKit Go.Lib Go.Sort
section
variable {P:Program} {α:Type} [Inhabited α]
theorem Ei (k:Nat) (L:JY P k) (enc:α->List Value) (cf:α->α->Int) (hO:SWO (ltOf cf)) (g:Nat) (cb:Array Value) (eg:∀ args w,(callFunc g args).run P w=.ok (.enter g args) w) (blk off cap a m b:Nat) (d0 d:Array α) (w0 w:World)
  (hcmp:CmpLays P g cb enc k cf blk off d0.size w0) (R:RowK enc k w0 blk off d0) (hs:d0.size=d.size) (S:SWK enc k w0 blk off d w) (ap:a+1=m) (aD:m<b) (hb:b<=d.size) (hsz:d.size<1152921504606846976) (hr:SortedIn (ltOf cf) m b d) :
  Calls P 261 #[.slice (some ⟨blk,off,none⟩) d.size cap,.int .i64 a,.int .i64 m,.int .i64 b,.func (.func g) #[] cb] w fun e w'=>e=.returned (.tuple #[])/\∃ dn,rW (ltOf cf) a b d dn/\SWK enc k w0 blk off dn w':=by
 have mixed:=L.mixed;have t0:=L.t0;have a0:=L.a0;have z0:=L.z0;have v0:=L.v0;have t3:=L.t3;have a3:=L.a3;have z3:=L.z3;have v3:=L.v3;have t4:=L.t4;have a4:=L.a4;have z4:=L.z4;have v4:=L.v4;have tu:=L.tu;have au:=L.au;have zu:=L.zu;have vu:=L.vu;have t22:=L.t22;have a22:=L.a22;have z22:=L.z22;have v22:=L.v22;have t25:=L.t25;have a25:=L.a25;have z25:=L.z25;have v25:=L.v25;have aE:=L.aE;have zE:=L.zE;have FG:=L.g145;have HC:Aside _:=hcmp;have S0:Aside (SWK enc k w0 blk off d w):=S;have HR:Hid (SortedIn (ltOf cf) m b d):=hr;have HO:Hid (SWO (ltOf cf)):=af hO;have q1:(m:Int) - (a:Int)=1:=by omega
 clear S L hcmp hr hO;go_enter FG,Tryz.ntmps261;go_wp2;clear q1;go_loopg [10,11] (b - m) (fun kx s10 s11 wr=>∃ (i j:Nat),s10=.int .i64 i/\s11=.int .i64 j/\m<=i/\i<=j/\j<=b/\j - i<=kx/\Aside (SWK enc k w0 blk off d wr)/\Hid ((∀ x,m<=x->x<i->ltOf cf d[x]! d[a]! = true)/\(∀ x,j<=x->x<b->ltOf cf d[x]! d[a]! = false)))
 case atStart=>exact ⟨m,b,rfl,rfl,by omega,by omega,by omega,by omega,S0,af ⟨fun x _ _=>by omega,fun x _ _=>by omega⟩⟩
 case round =>
  clear S0;obtain ⟨i,j,rfl,rfl,aq,aF,ar,aG,S1,HX⟩:=hrel;by_cases aH:i<j
  ·have al:(i:Int)<(j:Int):=by omega
   obtain ⟨h,hh⟩:∃ h,h=(i+j) / 2:=⟨_,rfl⟩;have aI:(i:Int)+(j:Int)<4611686018427387904:=by omega
   have aJ:0<=(i:Int)+(j:Int):=by omega
   have aK:((i:Int)+(j:Int)) / 2=(h:Int):=by omega
   have aL:i<=h:=by omega
   have aM:h<j:=by omega
   clear hh;have aw:h<d.size:=by omega
   have ay:a<d.size:=by omega
   cases ai:ltOf cf d[h]! d[a]! with
   | true =>
    have HN:Hid (∀ x,m<=x->x<h+1->ltOf cf d[x]! d[a]! = true):=af fun x h1 h2=>by
     by_cases e:x=h
     ·subst e;exact ai
     ·have h3:ltOf cf d[h]! d[x]! = false:=HR.out x h h1 (by omega) (by omega);cases h4:ltOf cf d[x]! d[a]! with
      | true=>rfl
      | false=>exact absurd (HO.out.ntrans _ _ _ h3 h4) (by rw [ai];simp)
    have ea:((h:Nat):Int).toNat=h:=by omega
    have pa:(0:Int)<=(h:Int):=by omega
    have ba:(h:Int)<(d.size:Int):=by omega
    have ec:((a:Nat):Int).toNat=a:=by omega
    have pc:(0:Int)<=(a:Int):=by omega
    have bc:(a:Int)<(d.size:Int):=by omega
    obtain ⟨vx,ag⟩:∃ z,z=d[h]!:=⟨_,rfl⟩;obtain ⟨vy,ah⟩:∃ z,z=d[a]!:=⟨_,rfl⟩;have la:=S1.out.ld R (by omega) P h (by omega);have lb:=S1.out.ld R (by omega) P a (by omega);rw [<-ag] at la;rw [<-ah] at lb;have aj:=S1.out.cmp HC.out (by omega) vx vy;have hv:cf vx vy<0:=by rw [ag,ah];exact of_decide_eq_true ai
    have hd:decide (cf vx vy<0)=true:=decide_eq_true hv;clear ag ah;go_wp2_with fail;go_quiet_grown (first | (go_at_fn g;refine Calls.grown_of (aj _ _)));have S2:Aside (SWK enc k w0 blk off d (grow (wr.drewN nq) osq)):=S1.out.grown nq osq;clear la lb aj S1;generalize grow (wr.drewN nq) osq=w2 at S2⊢;clear nq osq;go_wp2;go_roundg (j - (h+1))
    case measure=>omega
    case rel=>exact ⟨h+1,j,by go_num,rfl,by omega,by omega,ar,Nat.le_refl _,S2,af ⟨HN.out,HX.out.2⟩⟩
   | false =>
    have HN:Hid (∀ x,h<=x->x<b->ltOf cf d[x]! d[a]! = false):=af fun x h1 h2=>by
     by_cases e:x=h
     ·subst e;exact ai
     ·have h3:ltOf cf d[x]! d[h]! = false:=HR.out h x (by omega) (by omega) h2;exact HO.out.ntrans _ _ _ h3 ai
    have ea:((h:Nat):Int).toNat=h:=by omega
    have pa:(0:Int)<=(h:Int):=by omega
    have ba:(h:Int)<(d.size:Int):=by omega
    have ec:((a:Nat):Int).toNat=a:=by omega
    have pc:(0:Int)<=(a:Int):=by omega
    have bc:(a:Int)<(d.size:Int):=by omega
    obtain ⟨vx,ag⟩:∃ z,z=d[h]!:=⟨_,rfl⟩;obtain ⟨vy,ah⟩:∃ z,z=d[a]!:=⟨_,rfl⟩;have la:=S1.out.ld R (by omega) P h (by omega);have lb:=S1.out.ld R (by omega) P a (by omega);rw [<-ag] at la;rw [<-ah] at lb;have aj:=S1.out.cmp HC.out (by omega) vx vy;have hv:¬ cf vx vy<0:=by rw [ag,ah];exact of_decide_eq_false ai
    have hd:decide (cf vx vy<0)=false:=decide_eq_false hv;clear ag ah;go_wp2_with fail;go_quiet_grown (first | (go_at_fn g;refine Calls.grown_of (aj _ _)));have S2:Aside (SWK enc k w0 blk off d (grow (wr.drewN nq) osq)):=S1.out.grown nq osq;clear la lb aj S1;generalize grow (wr.drewN nq) osq=w2 at S2⊢;clear nq osq;go_wp2;go_roundg (h - i)
    case measure=>omega
    case rel=>exact ⟨i,h,rfl,rfl,aq,by omega,by omega,Nat.le_refl _,S2,af ⟨HX.out.1,HN.out⟩⟩
  ·have al:¬ (i:Int)<(j:Int):=by omega
   have az:j=i:=by omega
   subst az;go_wp2;go_loopg [13] (j - a) (fun kx s13 wr=>∃ (q:Nat) (dk:Array α),s13=.int .i64 q/\a<=q/\q<j/\j - q<=kx/\dk.size=d.size/\Aside (SWK enc k w0 blk off dk wr)/\Hid (rf a (a+1) (q+1) d dk))
   case atStart=>exact ⟨a,d,rfl,by omega,by omega,by omega,rfl,S1,af (rf.one a d)⟩
   case round =>
    clear S1;obtain ⟨q,dk,rfl,aA,aN,aO,aB,S1,HW⟩:=hrel;have aP:1<=(j:Int):=by omega
    by_cases aQ:q+1<j
    ·have aC:(q:Int)<(j:Int) - 1:=by omega
     have am:(q:Int)+1<(j:Int):=by omega
     go_wp2_with fail;obtain ⟨y,hy⟩:∃ y,y=q+1:=⟨_,rfl⟩;have HY:=af hy;have wy:(q:Int)+1=(y:Int):=by omega
     have aw:q<d.size:=by omega
     have ay:y<d.size:=by omega
     have ea:((q:Int)).toNat=q:=by omega
     have pa:(0:Int)<=(q:Int):=by omega
     have ba:(q:Int)<(d.size:Int):=by omega
     have ec:((y:Int)).toNat=y:=by omega
     have pc:(0:Int)<=(y:Int):=by omega
     have bc:(y:Int)<(d.size:Int):=by omega
     have wy2:IntKind.i64.wrap ((q:Int)+1)=(y:Int):=by rw [IntKind.wrap_i64];omega
     have S2:Aside (SWK enc k w0 blk off (swp dk q y) ((wr.drew.setCells blk (off+q*k) (enc dk[y]!)).setCells blk (off+y*k) (enc dk[q]!))):=S1.out.swapped R q y (by omega) (by omega);have l44a:=S1.out.ld1 R (by omega) P q (by omega);have l44b:=S1.out.ld1 R (by omega) P y (by omega);have s44a:=S1.out.st1 R (by omega) P q (by omega) dk[y]!;have s44b:=S1.out.st2 R (by omega) P q y (by omega) (by omega) dk[y]! dk[q]!;have n44a:(enc dk[q]!).length=k:=R.hk _;have n44b:(enc dk[y]!).length=k:=R.hk _;generalize enc dk[q]! = cI44 at S2 l44a s44b n44a;generalize enc dk[y]! = cJ44 at S2 l44b s44a s44b n44b;clear S1 hy;go_big_region_o;clear l44a l44b s44a s44b;generalize (wr.drew.setCells blk (off+q*k) cJ44).setCells blk (off+y*k) cI44=w2 at S2⊢;clear wy wy2;go_wp2;go_roundg (j - (q+1))
     case measure=>omega
     case rel=>exact ⟨q+1,swp dk q y,by go_num,by omega,by omega,Nat.le_refl _,by rw [Go.Sort.size_swp];exact aB,S2,by rw [HY.out];exact af (HW.out.up aA (by omega))⟩
    ·have aC:¬ (q:Int)<(j:Int) - 1:=by omega
     have am:¬ (q:Int)+1<(j:Int):=by omega
     have aR:q+1=j:=by omega
     have hm:rW (ltOf cf) a b d dk:=FC HO.out (i:=q+1) HW.out (by omega) (by omega) hb (by rw [ap];exact HR.out) (fun x h1 h2=>HX.out.1 x (by omega) (by omega)) (fun x h1 h2=>HX.out.2 x (by omega) h2);have HM:=af hm;clear hm;go_wp2
     (try simp only [Exit.inBlock,Exit.then]);refine bodyPost_ret (results_none rfl _ _ _) rfl ?_
     exact ⟨rfl,dk,HM.out,S1.out⟩
end
end
section
open Go.Shelf Go.RowKit Go.Lib Go.Sort
section
variable {P:Program} {α:Type} [Inhabited α]
theorem BH (k:Nat) (L:JY P k) (enc:α->List Value) (cf:α->α->Int) (hO:SWO (ltOf cf)) (g:Nat) (cb:Array Value) (eg:∀ args w,(callFunc g args).run P w=.ok (.enter g args) w) (blk off cap a m b:Nat) (d0 d:Array α) (w0 w:World)
  (hcmp:CmpLays P g cb enc k cf blk off d0.size w0) (R:RowK enc k w0 blk off d0) (hs:d0.size=d.size) (S:SWK enc k w0 blk off d w) (aD:a<m) (aF:a+1≠m) (am:m+1=b) (hb:b<=d.size) (hsz:d.size<1152921504606846976) (hl:SortedIn (ltOf cf) a m d) :
  Calls P 261 #[.slice (some ⟨blk,off,none⟩) d.size cap,.int .i64 a,.int .i64 m,.int .i64 b,.func (.func g) #[] cb] w fun e w'=>e=.returned (.tuple #[])/\∃ dn,rW (ltOf cf) a b d dn/\SWK enc k w0 blk off dn w':=by
 have mixed:=L.mixed;have t0:=L.t0;have a0:=L.a0;have z0:=L.z0;have v0:=L.v0;have t3:=L.t3;have a3:=L.a3;have z3:=L.z3;have v3:=L.v3;have t4:=L.t4;have a4:=L.a4;have z4:=L.z4;have v4:=L.v4;have tu:=L.tu;have au:=L.au;have zu:=L.zu;have vu:=L.vu;have t22:=L.t22;have a22:=L.a22;have z22:=L.z22;have v22:=L.v22;have t25:=L.t25;have a25:=L.a25;have z25:=L.z25;have v25:=L.v25;have aE:=L.aE;have zE:=L.zE;have FG:=L.g145;have HC:Aside _:=hcmp;have S0:Aside (SWK enc k w0 blk off d w):=S;have HL:Hid (SortedIn (ltOf cf) a m d):=hl;have HO:Hid (SWO (ltOf cf)):=af hO;obtain ⟨ma,ap⟩:∃ x,x=m - a:=⟨_,rfl⟩;have q1:(m:Int) - (a:Int)=(ma:Int):=by omega
 have q1':((ma:Int) == 1)=false:=by simp;omega
 have q2:(b:Int) - (m:Int)=1:=by omega
 have aq:(ma:Int)<1152921504606846976:=by omega
 clear S L hcmp hl hO ap;go_enter FG,Tryz.ntmps261;go_wp2;clear q1 q1' q2;go_loopg [14,15] (m - a) (fun kx s10 s11 wr=>∃ (i j:Nat),s10=.int .i64 i/\s11=.int .i64 j/\a<=i/\i<=j/\j<=m/\j - i<=kx/\Aside (SWK enc k w0 blk off d wr)/\Hid ((∀ x,a<=x->x<i->ltOf cf d[m]! d[x]! = false)/\(∀ x,j<=x->x<m->ltOf cf d[m]! d[x]! = true)))
 case atStart=>exact ⟨a,m,rfl,rfl,by omega,by omega,by omega,by omega,S0,af ⟨fun x _ _=>by omega,fun x _ _=>by omega⟩⟩
 case round =>
  clear S0;obtain ⟨i,j,rfl,rfl,ar,aG,aw,aH,S1,HX⟩:=hrel;by_cases aI:i<j
  ·have al:(i:Int)<(j:Int):=by omega
   obtain ⟨h,hh⟩:∃ h,h=(i+j) / 2:=⟨_,rfl⟩;have aJ:(i:Int)+(j:Int)<4611686018427387904:=by omega
   have aK:0<=(i:Int)+(j:Int):=by omega
   have aL:((i:Int)+(j:Int)) / 2=(h:Int):=by omega
   have aM:i<=h:=by omega
   have aN:h<j:=by omega
   clear hh;have ay:m<d.size:=by omega
   have az:h<d.size:=by omega
   cases ai:ltOf cf d[m]! d[h]! with
   | true =>
    have HN:Hid (∀ x,h<=x->x<m->ltOf cf d[m]! d[x]! = true):=af fun x h1 h2=>by
     by_cases e:x=h
     ·subst e;exact ai
     ·have h3:ltOf cf d[x]! d[h]! = false:=HL.out h x (by omega) (by omega) h2;cases h4:ltOf cf d[m]! d[x]! with
      | true=>rfl
      | false=>exact absurd (HO.out.ntrans _ _ _ h4 h3) (by rw [ai];simp)
    have ea:((m:Nat):Int).toNat=m:=by omega
    have pa:(0:Int)<=(m:Int):=by omega
    have ba:(m:Int)<(d.size:Int):=by omega
    have ec:((h:Nat):Int).toNat=h:=by omega
    have pc:(0:Int)<=(h:Int):=by omega
    have bc:(h:Int)<(d.size:Int):=by omega
    obtain ⟨vx,ag⟩:∃ z,z=d[m]!:=⟨_,rfl⟩;obtain ⟨vy,ah⟩:∃ z,z=d[h]!:=⟨_,rfl⟩;have la:=S1.out.ld R (by omega) P m (by omega);have lb:=S1.out.ld R (by omega) P h (by omega);rw [<-ag] at la;rw [<-ah] at lb;have aj:=S1.out.cmp HC.out (by omega) vx vy;have hv:cf vx vy<0:=by rw [ag,ah];exact of_decide_eq_true ai
    have hd:decide (cf vx vy<0)=true:=decide_eq_true hv;clear ag ah;go_wp2_with fail;go_quiet_grown (first | (go_at_fn g;refine Calls.grown_of (aj _ _)));have S2:Aside (SWK enc k w0 blk off d (grow (wr.drewN nq) osq)):=S1.out.grown nq osq;clear la lb aj S1;generalize grow (wr.drewN nq) osq=w2 at S2⊢;clear nq osq;go_wp2;go_roundg (h - i)
    case measure=>omega
    case rel=>exact ⟨i,h,rfl,rfl,ar,by omega,by omega,Nat.le_refl _,S2,af ⟨HX.out.1,HN.out⟩⟩
   | false =>
    have HN:Hid (∀ x,a<=x->x<h+1->ltOf cf d[m]! d[x]! = false):=af fun x h1 h2=>by
     by_cases e:x=h
     ·subst e;exact ai
     ·have h3:ltOf cf d[h]! d[x]! = false:=HL.out x h h1 (by omega) (by omega);exact HO.out.ntrans _ _ _ ai h3
    have ea:((m:Nat):Int).toNat=m:=by omega
    have pa:(0:Int)<=(m:Int):=by omega
    have ba:(m:Int)<(d.size:Int):=by omega
    have ec:((h:Nat):Int).toNat=h:=by omega
    have pc:(0:Int)<=(h:Int):=by omega
    have bc:(h:Int)<(d.size:Int):=by omega
    obtain ⟨vx,ag⟩:∃ z,z=d[m]!:=⟨_,rfl⟩;obtain ⟨vy,ah⟩:∃ z,z=d[h]!:=⟨_,rfl⟩;have la:=S1.out.ld R (by omega) P m (by omega);have lb:=S1.out.ld R (by omega) P h (by omega);rw [<-ag] at la;rw [<-ah] at lb;have aj:=S1.out.cmp HC.out (by omega) vx vy;have hv:¬ cf vx vy<0:=by rw [ag,ah];exact of_decide_eq_false ai
    have hd:decide (cf vx vy<0)=false:=decide_eq_false hv;clear ag ah;go_wp2_with fail;go_quiet_grown (first | (go_at_fn g;refine Calls.grown_of (aj _ _)));have S2:Aside (SWK enc k w0 blk off d (grow (wr.drewN nq) osq)):=S1.out.grown nq osq;clear la lb aj S1;generalize grow (wr.drewN nq) osq=w2 at S2⊢;clear nq osq;go_wp2;go_roundg (j - (h+1))
    case measure=>omega
    case rel=>exact ⟨h+1,j,by go_num,rfl,by omega,by omega,aw,Nat.le_refl _,S2,af ⟨HN.out,HX.out.2⟩⟩
  ·have al:¬ (i:Int)<(j:Int):=by omega
   have aA:j=i:=by omega
   subst aA;go_wp2;go_loopg [17] (m - j) (fun kx s13 wr=>∃ (q:Nat) (dk:Array α),s13=.int .i64 q/\j<=q/\q<=m/\q - j<=kx/\dk.size=d.size/\Aside (SWK enc k w0 blk off dk wr)/\Hid (rf q m (m+1) d dk))
   case atStart=>exact ⟨m,d,rfl,by omega,by omega,by omega,rfl,S1,af (rf.none m (m+1) d)⟩
   case round =>
    clear S1;obtain ⟨q,dk,rfl,aO,aP,aQ,aB,S1,HW⟩:=hrel;by_cases aR:j<q
    ·have aC:(j:Int)<(q:Int):=by omega
     obtain ⟨y,hy⟩:∃ y,y=q - 1:=⟨_,rfl⟩;go_wp2_with fail;have HY:Hid (q=y+1):=af (by omega);have wy:(q:Int) - 1=(y:Int):=by omega
     have ay:q<d.size:=by omega
     have az:y<d.size:=by omega
     have aS:j<=y:=by omega
     have aT:y<q:=by omega
     have ea:((q:Int)).toNat=q:=by omega
     have pa:(0:Int)<=(q:Int):=by omega
     have ba:(q:Int)<(d.size:Int):=by omega
     have ec:((y:Int)).toNat=y:=by omega
     have pc:(0:Int)<=(y:Int):=by omega
     have bc:(y:Int)<(d.size:Int):=by omega
     have wy2:IntKind.i64.wrap ((q:Int) - 1)=(y:Int):=by rw [IntKind.wrap_i64];omega
     have S2:Aside (SWK enc k w0 blk off (swp dk q y) ((wr.drew.setCells blk (off+q*k) (enc dk[y]!)).setCells blk (off+y*k) (enc dk[q]!))):=S1.out.swapped R q y (by omega) (by omega);have l44a:=S1.out.ld1 R (by omega) P q (by omega);have l44b:=S1.out.ld1 R (by omega) P y (by omega);have s44a:=S1.out.st1 R (by omega) P q (by omega) dk[y]!;have s44b:=S1.out.st2 R (by omega) P q y (by omega) (by omega) dk[y]! dk[q]!;have n44a:(enc dk[q]!).length=k:=R.hk _;have n44b:(enc dk[y]!).length=k:=R.hk _;generalize enc dk[q]! = cI44 at S2 l44a s44b n44a;generalize enc dk[y]! = cJ44 at S2 l44b s44a s44b n44b;clear S1 hy;go_big_region_o;clear l44a l44b s44a s44b;generalize (wr.drew.setCells blk (off+q*k) cJ44).setCells blk (off+y*k) cI44=w2 at S2⊢;clear wy2;go_wp2;go_roundg (y - j)
     case measure=>omega
     case rel=>exact ⟨y,swp dk q y,rfl,by omega,by omega,Nat.le_refl _,by rw [Go.Sort.size_swp];exact aB,S2,by have h:=HW.out;rw [HY.out] at h⊢;exact af (h.down (by omega) (by omega))⟩
    ·have aC:¬ (j:Int)<(q:Int):=by omega
     have aU:q=j:=by omega
     have hm:rW (ltOf cf) a (m+1) d dk:=Dv HO.out (i:=q) HW.out (by omega) (by omega) (by omega) HL.out (fun x h1 h2=>HX.out.1 x (by omega) (by omega)) (fun x h1 h2=>HX.out.2 x (by omega) h2);rw [am] at hm;have HM:=af hm;clear hm;go_wp2
     (try simp only [Exit.inBlock,Exit.then]);refine bodyPost_ret (results_none rfl _ _ _) rfl ?_
     exact ⟨rfl,dk,HM.out,S1.out⟩
end
end
section
open Go.Shelf Go.RowKit Go.Lib Go.Sort
section
variable {P:Program} {α:Type} [Inhabited α]
theorem rf.right (a b:Nat) (d:Array α):rf a b b d d:=⟨permIn_refl _ _ _,fun x=>(vY a b (uS d) x).symm⟩
theorem rW.triv {lt:α->α->Bool} {a b:Nat} {d:Array α} (h:SortedIn lt a b d):rW lt a b d d:=⟨permIn_refl _ _ _,h⟩
structure sO (lt:α->α->Bool) (p s0 r0 s r:Nat) (d:Array α):Prop where
 a:s0<=s
 b:s<=r
 c:r<=r0
 lo:∀ x,s0<=x->x<s->lt d[p - x]! d[x]! = false
 hi:∀ x,r<=x->x<r0->lt d[p - x]! d[x]! = true
def sM (a m b mid s0 r0:Nat):Prop:=(mid<m/\s0=mid+m - b/\r0=mid)\/(m<=mid/\s0=a/\r0=m)
theorem sO.up {lt:α->α->Bool} (hO:SWO lt) {a m b mid s0 r0 s r c:Nat} {d:Array α} (h:sO lt (mid+m - 1) s0 r0 s r d) (he:sM a m b mid s0 r0) (_ham:a<m) (ah:m<b) (ag:mid=(a+b) / 2) (hl:SortedIn lt a m d) (hr:SortedIn lt m b d) (h1:s<=c) (h2:c<r) (hv:lt d[mid+m - 1 - c]! d[c]! = false):sO lt (mid+m - 1) s0 r0 (c+1) r d:=by
 have ha:=h.a;have hb:=h.b;have hc:=h.c;refine ⟨by omega,by omega,hc,fun x ai aj=>?_,h.hi⟩;have e1:a<=x:=by rcases he with he | he <;> omega
 have e2:c<m:=by rcases he with he | he <;> omega
 have e3:m<=mid+m - 1 - c:=by rcases he with he | he <;> omega
 have e4:mid+m - 1 - x<b:=by rcases he with he | he <;> omega
 exact kW hO (kW hO (i' hO hl e1 (show x<=c by omega) e2) hv) (i' hO hr e3 (show mid+m - 1 - c<=mid+m - 1 - x by omega) e4)
theorem sO.down {lt:α->α->Bool} (hO:SWO lt) {a m b mid s0 r0 s r c:Nat} {d:Array α} (h:sO lt (mid+m - 1) s0 r0 s r d) (he:sM a m b mid s0 r0) (_ham:a<m) (ai:m<b) (ag:mid=(a+b) / 2) (hl:SortedIn lt a m d) (hr:SortedIn lt m b d) (h1:s<=c) (h2:c<r) (hv:lt d[mid+m - 1 - c]! d[c]! = true):sO lt (mid+m - 1) s0 r0 s c d:=by
 have ha:=h.a;have hb:=h.b;have hc:=h.c;refine ⟨ha,h1,by omega,h.lo,fun x ah aj=>?_⟩;have e1:a<=c:=by rcases he with he | he <;> omega
 have e2:x<m:=by rcases he with he | he <;> omega
 have e3:m<=mid+m - 1 - x:=by rcases he with he | he <;> omega
 have e4:mid+m - 1 - c<b:=by rcases he with he | he <;> omega
 cases hx:lt d[mid+m - 1 - x]! d[x]! with
 | true=>rfl
 | false =>
  have:=kW hO (kW hO (i' hO hl e1 ah e2) hx) (i' hO hr e3 (show mid+m - 1 - x<=mid+m - 1 - c by omega) e4);rw [this] at hv;cases hv
theorem sO.cut {lt:α->α->Bool} {a m b mid s0 r0 s:Nat} {d:Array α} (h:sO lt (mid+m - 1) s0 r0 s s d) (he:sM a m b mid s0 r0) (ah:a<m) (ai:m<b) (ag:mid=(a+b) / 2):Ex lt a m b mid s d:=by
 have ha:=h.a;have hc:=h.c;refine ⟨by rcases he with he | he <;> omega,by rcases he with he | he <;> omega,by rcases he with he | he <;> omega,by rcases he with he | he <;> omega,by rcases he with he | he <;> omega,?_,?_⟩
 ·by_cases e:s=s0
  ·rcases he with he | he
   ·exact .inl ⟨he.1,by omega⟩
   ·exact .inr (.inl ⟨he.1,by omega⟩)
  ·have:=h.lo (s - 1) (by omega) (by omega);rw [show mid+m - 1 - (s - 1)=mid+m - s by rcases he with he | he <;> omega] at this;exact .inr (.inr ⟨by rcases he with he | he <;> omega,by rcases he with he | he <;> omega,this⟩)
 ·by_cases e:s=r0
  ·rcases he with he | he
   ·exact .inl ⟨he.1,by omega⟩
   ·exact .inr (.inl ⟨he.1,by omega⟩)
  ·have:=h.hi s (Nat.le_refl _) (by omega);rw [show mid+m - 1 - s=mid+m - s - 1 by omega] at this;exact .inr (.inr ⟨by rcases he with he | he <;> omega,by rcases he with he | he <;> omega,this⟩)
theorem rf.sorted {lt:α->α->Bool} {a m b mid s:Nat} {d d1:Array α} (hR:rf s m (mid+m - s) d d1) (hc:Ex lt a m b mid s d) (hl:SortedIn lt a m d) (hr:SortedIn lt m b d) :
  SortedIn lt a s d1/\SortedIn lt s mid d1/\SortedIn lt mid (mid+m - s) d1/\SortedIn lt (mid+m - s) b d1:=by
 obtain ⟨c1,c2,c3,c4,c5,_,_⟩:=hc;refine ⟨fun i j hi ag hj=>?_,fun i j hi ag hj=>?_,fun i j hi ag hj=>?_,fun i j hi ag hj=>?_⟩ <;> rw [hR.2,hR.2] <;> unfold lG uS
 ·rw [if_neg (by omega),if_neg (by omega),if_neg (by omega),if_neg (by omega)];exact hl i j hi ag (by omega)
 ·rw [if_pos (by omega),if_pos (by omega)];exact hr _ _ (by omega) (by omega) (by omega)
 ·rw [if_neg (by omega),if_pos (by omega),if_neg (by omega),if_pos (by omega)];exact hl _ _ (by omega) (by omega) (by omega)
 ·rw [if_neg (by omega),if_neg (by omega),if_neg (by omega),if_neg (by omega)];exact hr i j (by omega) ag hj
theorem BG (k:Nat) (L:JY P k) (enc:α->List Value) (cf:α->α->Int) (hO:SWO (ltOf cf)) (g:Nat) (cb:Array Value) (eg:∀ args w,(callFunc g args).run P w=.ok (.enter g args) w) (blk off cap:Nat) (d0:Array α) (w0:World)
  (hcmp:CmpLays P g cb enc k cf blk off d0.size w0) (R:RowK enc k w0 blk off d0) (hsz:d0.size<1152921504606846976):∀ (N a m b:Nat) (d:Array α) (w:World),b - a<=N->d0.size=d.size->SWK enc k w0 blk off d w->a<m->m<b->b<=d.size->SortedIn (ltOf cf) a m d->SortedIn (ltOf cf) m b d ->
  Calls P 261 #[.slice (some ⟨blk,off,none⟩) d0.size cap,.int .i64 a,.int .i64 m,.int .i64 b,.func (.func g) #[] cb] w fun e w'=>e=.returned (.tuple #[])/\∃ dn,rW (ltOf cf) a b d dn/\SWK enc k w0 blk off dn w':=by
 intro N;induction N with
 | zero=>intro a m b d w h _ _ h1 h2;omega
 | succ N ih =>
  intro a m b d w hN hs S ay az hb hl hr;by_cases c1:a+1=m
  ·have:=Ei k L enc cf hO g cb eg blk off cap a m b d0 d w0 w hcmp R hs S c1 az hb (by omega) hr;rw [<-hs] at this;exact this
  by_cases c2:m+1=b
  ·have:=BH k L enc cf hO g cb eg blk off cap a m b d0 d w0 w hcmp R hs S ay c1 c2 hb (by omega) hl;rw [<-hs] at this;exact this
  have mixed:=L.mixed;have t0:=L.t0;have a0:=L.a0;have z0:=L.z0;have v0:=L.v0;have t3:=L.t3;have a3:=L.a3;have z3:=L.z3;have v3:=L.v3;have t4:=L.t4;have a4:=L.a4;have z4:=L.z4;have v4:=L.v4;have tu:=L.tu;have au:=L.au;have zu:=L.zu;have vu:=L.vu;have t22:=L.t22;have a22:=L.a22;have z22:=L.z22;have v22:=L.v22;have t25:=L.t25;have a25:=L.a25;have z25:=L.z25;have v25:=L.v25;have aE:=L.aE;have zE:=L.zE;have FG:=L.g145;have e147:∀ args w,(callFunc 267 args).run P w=.ok (.enter 267 args) w:=enters_of L.g147 (by kernel_rfl) rfl;have e145:∀ args w,(callFunc 261 args).run P w=.ok (.enter 261 args) w:=enters_of L.g145 (by kernel_rfl) rfl
  have aL:Hid (∀ (a m b:Nat) (d:Array α) (w:World),d0.size=d.size->SWK enc k w0 blk off d w->a<m->m<b->b<=d.size ->
   Calls P 267 #[.slice (some ⟨blk,off,none⟩) d0.size cap,.int .i64 a,.int .i64 m,.int .i64 b,.func (.func g) #[] cb] w fun e w'=>e=.returned (.tuple #[])/\∃ dn,rf a m b d dn/\SWK enc k w0 blk off dn w') :=
   af fun a m b d w h1 h2 h3 h4 h5=>by
    have:=Gy k L enc g cb blk off cap a m b d0 d w0 w R h1 h2 h3 h4 h5 (by omega);rw [<-h1] at this;exact this
  have IH:=af ih;have HC:Aside _:=hcmp;have S0:Aside (SWK enc k w0 blk off d w):=S;have HL:Hid (SortedIn (ltOf cf) a m d):=hl;have HR:Hid (SortedIn (ltOf cf) m b d):=hr;have HO:Hid (SWO (ltOf cf)):=af hO;have bG:d.size<=d0.size:=by omega
  have bH:d0.size<=d.size:=by omega
  obtain ⟨mid,aA⟩:∃ x,x=(a+b) / 2:=⟨_,rfl⟩;obtain ⟨nn,aT⟩:∃ x,x=mid+m:=⟨_,rfl⟩;obtain ⟨ma,bf⟩:∃ x,x=m - a:=⟨_,rfl⟩;obtain ⟨bm,bh⟩:∃ x,x=b - m:=⟨_,rfl⟩
  obtain ⟨s0,r0,al⟩:∃ s0 r0,sM a m b mid s0 r0:=by
   by_cases c:mid<m
   ·exact ⟨_,_,.inl ⟨c,rfl,rfl⟩⟩
   ·exact ⟨_,_,.inr ⟨by omega,rfl,rfl⟩⟩
  have HE:Hid (sM a m b mid s0 r0):=al;have ah:Hid (mid=(a+b) / 2):=aA;have am:Hid (nn=mid+m):=aT;have q1:(m:Int) - (a:Int)=(ma:Int):=by omega
  have q1':((ma:Int) == 1)=false:=by simp;omega
  have q2:(b:Int) - (m:Int)=(bm:Int):=by omega
  have q2':((bm:Int) == 1)=false:=by simp;omega
  have bi:(ma:Int)<1152921504606846976:=by omega
  have bj:(bm:Int)<1152921504606846976:=by omega
  have q3:((a:Int)+(b:Int)) / 2=(mid:Int):=by omega
  have bk:0<=(a:Int)+(b:Int):=by omega
  have bl:(a:Int)+(b:Int)<4611686018427387904:=by omega
  have q4:(mid:Int)+(m:Int)=(nn:Int):=by omega
  have bo:(nn:Int)<4611686018427387904:=by omega
  obtain ⟨nb,aM⟩:∃ x,x=nn - b:=⟨_,rfl⟩;obtain ⟨p,hp⟩:∃ x,x=nn - 1:=⟨_,rfl⟩;have q6:(nn:Int) - 1=(p:Int):=by omega
  have bI:(p:Int)<4611686018427387904:=by omega
  have HP:Hid (p=mid+m - 1):=by show _=_;omega
  clear al;clear S hcmp hl hr hO aA aT bf bh ih c1 c2 hp HE hs s0 r0;obtain ⟨b0,aN⟩:∃ x,decide (mid<m)=x:=⟨_,rfl⟩;go_enter FG,Tryz.ntmps261;go_upto_if 140 with fail
  have aU:=af aN;clear aN;go_cut [20,21] from 141 to 146 (fun v20 v21 wx=>∃ s0 r0:Nat,v20=.int .i64 s0/\v21=.int .i64 r0/\Hid (sM a m b mid s0 r0)/\Aside (SWK enc k w0 blk off d wx))
  case first =>
   cases b0 with
   | true =>
    have c:mid<m:=by have:=of_decide_eq_true aU.out;omega
    have q5:(nn:Int) - (b:Int)=(nb:Int):=by have h1:=am.out;have h2:=ah.out;omega
    have HE:Hid (sM a m b mid nb mid):=af (.inl ⟨c,by have h1:=am.out;omega,rfl⟩);clear aM c;go_wp2_with fail;go_meet;exact ⟨nb,mid,rfl,rfl,HE,S0⟩
   | false =>
    have c:¬ mid<m:=by have:=of_decide_eq_false aU.out;omega
    have HE:Hid (sM a m b mid a m):=af (.inr ⟨by omega,rfl,rfl⟩);clear aM c;go_wp2_with fail;go_meet;exact ⟨a,m,rfl,rfl,HE,S0⟩
  case rest=>as_aux_lemma =>
   clear S0;obtain ⟨s0,r0,rfl,rfl,HE,S0⟩:=hcut;have bp:r0<=m/\r0<=mid/\a<=s0/\s0<=r0/\nn - s0<=b/\m<=nn - r0:=by have h1:=am.out;have h2:=ah.out;rcases HE.out with h | h <;> omega
   obtain ⟨g1,g2,g3,g4,g5,g6⟩:=bp;have aV:Hid (∃ s0' r0',sM a m b mid s0' r0'/\sO (ltOf cf) (mid+m - 1) s0' r0' s0 r0 d):=af ⟨s0,r0,HE.out,⟨Nat.le_refl _,g4,Nat.le_refl _,fun x _ _=>by omega,fun x _ _=>by omega⟩⟩;clear aM HE;go_wp2;go_loopg [20,21] (r0 - s0) (fun kx s20 s21 wr=>∃ (s r:Nat),s20=.int .i64 s/\s21=.int .i64 r/\a<=s/\s<=r/\r<=m/\r<=mid/\nn - s<=b/\m<=nn - r/\r - s<=kx/\Aside (SWK enc k w0 blk off d wr)/\Hid (∃ s0' r0',sM a m b mid s0' r0'/\sO (ltOf cf) (mid+m - 1) s0' r0' s r d))
   case atStart=>exact ⟨s0,r0,rfl,rfl,g3,g4,g1,g2,g5,g6,Nat.le_refl _,S0,aV⟩
   case round=>as_aux_lemma =>
    clear S0 aV;obtain ⟨s,r,rfl,rfl,has,bJ,bq,aB,br,bt,bK,S1,HX⟩:=hrel;by_cases bL:s<r
    ·have aC:(s:Int)<(r:Int):=by omega
     obtain ⟨c,hc⟩:∃ c,c=(s+r) / 2:=⟨_,rfl⟩;have aO:(s:Int)+(r:Int)<4611686018427387904:=by omega
     have aN:0<=(s:Int)+(r:Int):=by omega
     have bM:((s:Int)+(r:Int)) / 2=(c:Int):=by omega
     have aP:s<=c:=by omega
     have aW:c<r:=by omega
     obtain ⟨y,hy⟩:∃ y,y=mid+m - 1 - c:=⟨_,rfl⟩;have bN:(p:Int) - (c:Int)=(y:Int):=by have:=HP.out;omega
     have bO:(y:Int)<4611686018427387904:=by omega
     have bP:y<b:=by have:=am.out;omega
     have bQ:c<d.size:=by omega
     have bR:y<d.size:=by omega
     have bS:=af hy;clear hc;cases aJ:ltOf cf d[y]! d[c]! with
     | true=>as_aux_lemma =>
      have HN:Hid (∃ s0' r0',sM a m b mid s0' r0'/\sO (ltOf cf) (mid+m - 1) s0' r0' s c d):=by
       obtain ⟨x0,x1,h1,h2⟩:=HX.out;exact af ⟨x0,x1,h1,h2.down HO.out h1 ay az ah.out HL.out HR.out aP aW (by rw [<-hy];exact aJ)⟩
      have bw:m<=nn - c:=by have:=am.out;omega
      clear hy;have ea:((y:Nat):Int).toNat=y:=by omega
      have pa:(0:Int)<=(y:Int):=by omega
      have ba:(y:Int)<(d0.size:Int):=by omega
      have ec:((c:Nat):Int).toNat=c:=by omega
      have pc:(0:Int)<=(c:Int):=by omega
      have bc:(c:Int)<(d0.size:Int):=by omega
      obtain ⟨vx,ap⟩:∃ z,z=d[y]!:=⟨_,rfl⟩;obtain ⟨vy,aq⟩:∃ z,z=d[c]!:=⟨_,rfl⟩;have la:=S1.out.ld R (by omega) P y (by omega);have lb:=S1.out.ld R (by omega) P c (by omega);rw [<-ap] at la;rw [<-aq] at lb;have aD:=S1.out.cmp HC.out (by omega) vx vy;have hv:cf vx vy<0:=by rw [ap,aq];exact of_decide_eq_true aJ
      have hd:decide (cf vx vy<0)=true:=decide_eq_true hv;clear ap aq;have aQ:IntKind.i64.wrap (y:Int)=(y:Int):=by rw [IntKind.wrap_i64];omega
      go_wp2_with fail;go_quiet_grown (first | (go_at_fn g;refine Calls.grown_of (aD _ _)));have S2:Aside (SWK enc k w0 blk off d (grow (wr.drewN nq) osq)):=S1.out.grown nq osq;clear la lb aD S1 aQ;generalize grow (wr.drewN nq) osq=w2 at S2⊢;clear nq osq;go_wp2;go_roundg (c - s)
      case measure=>omega
      case rel=>exact ⟨s,c,rfl,rfl,has,aP,by omega,by omega,br,bw,Nat.le_refl _,S2,HN⟩
     | false=>as_aux_lemma =>
      have HN:Hid (∃ s0' r0',sM a m b mid s0' r0'/\sO (ltOf cf) (mid+m - 1) s0' r0' (c+1) r d):=by
       obtain ⟨x0,x1,h1,h2⟩:=HX.out;exact af ⟨x0,x1,h1,h2.up HO.out h1 ay az ah.out HL.out HR.out aP aW (by rw [<-hy];exact aJ)⟩
      clear hy;have ea:((y:Nat):Int).toNat=y:=by omega
      have pa:(0:Int)<=(y:Int):=by omega
      have ba:(y:Int)<(d0.size:Int):=by omega
      have ec:((c:Nat):Int).toNat=c:=by omega
      have pc:(0:Int)<=(c:Int):=by omega
      have bc:(c:Int)<(d0.size:Int):=by omega
      obtain ⟨vx,ap⟩:∃ z,z=d[y]!:=⟨_,rfl⟩;obtain ⟨vy,aq⟩:∃ z,z=d[c]!:=⟨_,rfl⟩;have la:=S1.out.ld R (by omega) P y (by omega);have lb:=S1.out.ld R (by omega) P c (by omega);rw [<-ap] at la;rw [<-aq] at lb;have aD:=S1.out.cmp HC.out (by omega) vx vy;have hv:¬ cf vx vy<0:=by rw [ap,aq];exact of_decide_eq_false aJ
      have hd:decide (cf vx vy<0)=false:=decide_eq_false hv;clear ap aq;have aQ:IntKind.i64.wrap (y:Int)=(y:Int):=by rw [IntKind.wrap_i64];omega
      go_wp2_with fail;go_quiet_grown (first | (go_at_fn g;refine Calls.grown_of (aD _ _)));have S2:Aside (SWK enc k w0 blk off d (grow (wr.drewN nq) osq)):=S1.out.grown nq osq;clear la lb aD S1 aQ;generalize grow (wr.drewN nq) osq=w2 at S2⊢;clear nq osq;go_wp2;go_roundg (r - (c+1))
      case measure=>omega
      case rel=>exact ⟨c+1,r,by go_num,rfl,by omega,by omega,bq,aB,by omega,bt,Nat.le_refl _,S2,HN⟩
    ·have aC:¬ (s:Int)<(r:Int):=by omega
     have bz:r=s:=by omega
     subst bz
     have hcut:Ex (ltOf cf) a m b mid r d:=by
      obtain ⟨x0,x1,h1,h2⟩:=HX.out;exact h2.cut h1 ay az ah.out
     have aF:Hid (Ex (ltOf cf) a m b mid r d):=hcut;obtain ⟨e,he⟩:∃ e,e=nn - r:=⟨_,rfl⟩;have q8:(nn:Int) - (r:Int)=(e:Int):=by omega
     have bT:(e:Int)<4611686018427387904:=by omega
     have aR:Hid (e=mid+m - r):=by show _=_;have:=am.out;omega
     have bU:e<=b:=by omega
     have bV:m<=e:=by omega
     have aX:mid<=e:=by have:=am.out;omega
     have aY:a<mid:=by have:=ah.out;omega
     have aZ:mid<b:=by have:=ah.out;omega
     clear hcut he HX aC;go_upto_region 39 with fail
     obtain ⟨b1,aO⟩:∃ x:Bool,x=decide (r<m/\m<e):=⟨_,rfl⟩;have aw:=af aO;clear aO;go_cut [185] (fun v wx=>v=.bool b1/\Aside (SWK enc k w0 blk off d wx))
     case first=>as_aux_lemma =>
      by_cases h1:r<m
      ·have h1':(r:Int)<(m:Int):=by omega
       by_cases h2:m<e
       ·have h2':(m:Int)<(e:Int):=by omega
        have hb:b1=true:=by rw [aw.out];simp [h1,h2]
        subst hb;go_wp2_with fail;go_meet;exact ⟨rfl,S1⟩
       ·have h2':¬ (m:Int)<(e:Int):=by omega
        have hb:b1=false:=by rw [aw.out];simp [h2]
        subst hb;go_wp2_with fail;go_meet;exact ⟨rfl,S1⟩
      ·have h1':¬ (r:Int)<(m:Int):=by omega
       have hb:b1=false:=by rw [aw.out];simp [h1]
       subst hb;go_wp2_with fail;go_meet;exact ⟨rfl,S1⟩
     case rest=>as_aux_lemma =>
      clear S1;obtain ⟨rfl,S1⟩:=hcut
      have aG:Hid (rf r m e d d\/b1=true):=by
       rcases Nat.lt_or_ge r m with h1 | h1
       ·rcases Nat.lt_or_ge m e with h2 | h2
        ·exact af (.inr (by rw [aw.out];simp [h1,h2]))
        ·have:e=m:=by omega
         rw [this];exact af (.inl (rf.right r m d))
       ·have:r=m:=by omega
        rw [this];exact af (.inl (rf.none m e d))
      go_upto_if 185 with fail
      go_cut [] (fun wx=>∃ d1:Array α,Aside (SWK enc k w0 blk off d1 wx)/\Hid (rf r m e d d1))
      case first=>as_aux_lemma =>
       cases b1 with
       | true =>
        have hc1:r<m/\m<e:=by have:=aw.out;simpa using this.symm
        have aH:=af (aL.out r m e d wc (by omega) S1.out hc1.1 hc1.2 (by omega));clear hc1;go_wp2_with (go_at_fn 267;refine aH.out.mono ?_;rintro e' w2 ⟨rfl,d1,aI,aj⟩);go_meet;exact ⟨d1,aj,af aI⟩
       | false =>
        go_wp2_with fail;go_meet;exact ⟨d,S1,af (by rcases aG.out with h | h;exact h;cases h)⟩
      case rest=>as_aux_lemma =>
       clear S1 aw aG;obtain ⟨d1,S1,aS⟩:=hcut;have bA:d1.size=d.size:=aS.out.1.1;have bB:d1.size<=d.size:=by omega
       have bC:d.size<=d1.size:=by omega
       have ag:=aS.out;rw [aR.out] at ag;have ar:=ag.sorted aF.out HL.out HR.out;rw [<-aR.out] at ar;have ai:=af ar;clear ag ar bA;clear b1;go_upto_region 41 with fail
       obtain ⟨b2,a_⟩:∃ q:Bool,q=decide (a<r/\r<mid):=⟨_,rfl⟩;have HB:=af a_;clear a_;go_cut [199] (fun v wx=>v=.bool b2/\Aside (SWK enc k w0 blk off d1 wx))
       case first=>as_aux_lemma =>
        by_cases h1:a<r
        ·have h1':(a:Int)<(r:Int):=by omega
         by_cases h2:r<mid
         ·have h2':(r:Int)<(mid:Int):=by omega
          have hb:b2=true:=by rw [HB.out];simp [h1,h2]
          subst hb;go_wp2_with fail;go_meet;exact ⟨rfl,S1⟩
         ·have h2':¬ (r:Int)<(mid:Int):=by omega
          have hb:b2=false:=by rw [HB.out];simp [h2]
          subst hb;go_wp2_with fail;go_meet;exact ⟨rfl,S1⟩
        ·have h1':¬ (a:Int)<(r:Int):=by omega
         have hb:b2=false:=by rw [HB.out];simp [h1]
         subst hb;go_wp2_with fail;go_meet;exact ⟨rfl,S1⟩
       case rest=>as_aux_lemma =>
        clear S1;obtain ⟨rfl,S1⟩:=hcut;go_upto_if 199 with fail
        go_cut [] (fun wx=>∃ d2:Array α,Aside (SWK enc k w0 blk off d2 wx)/\Hid (rW (ltOf cf) a mid d1 d2))
        case first=>as_aux_lemma =>
         cases b2 with
         | true =>
          have hc1:a<r/\r<mid:=by have:=HB.out;simpa using this.symm
          have aH:=af (IH.out a r mid d1 wc (by omega) (by omega) S1.out hc1.1 hc1.2 (by omega) ai.out.1 ai.out.2.1);clear hc1;go_wp2_with (go_at_fn 261;refine aH.out.mono ?_;rintro e' w2 ⟨rfl,d2,aI,aj⟩);go_meet;exact ⟨d2,aj,af aI⟩
         | false =>
          have HT:Hid (rW (ltOf cf) a mid d1 d1):=af (rW.triv (by
           have h0:=HB.out;have h1:¬ (a<r/\r<mid):=by simpa using h0.symm
           rcases Nat.lt_or_ge a r with h2 | h2
           ·have h3:r=mid:=by omega
            rw [<-h3];exact ai.out.1
           ·have h3:r=a:=by omega
            have h4:=ai.out.2.1;rw [h3] at h4;exact h4))
          go_wp2_with fail;go_meet;exact ⟨_,S1,HT⟩
        case rest=>as_aux_lemma =>
         clear S1 HB;obtain ⟨d2,S1,HM_d2⟩:=hcut;have bD:d2.size=d1.size:=HM_d2.out.1.1;have bE:d2.size<=d1.size:=by omega
         have bF:d1.size<=d2.size:=by omega
         have aK:Hid (SortedIn (ltOf cf) mid e d2/\SortedIn (ltOf cf) e b d2):=by
          have hc:=fun i (h1:mid<=i)=>HM_d2.out.1.2.1 i (.inr h1)
          exact af ⟨ai.out.2.2.1.congr fun i h1 _=>hc i h1,ai.out.2.2.2.congr fun i h1 _=>hc i (by omega)⟩
         clear bD b2;go_upto_region 43 with fail
         obtain ⟨b3,bd⟩:∃ q:Bool,q=decide (mid<e/\e<b):=⟨_,rfl⟩;have HB:=af bd;clear bd;go_cut [213] (fun v wx=>v=.bool b3/\Aside (SWK enc k w0 blk off d2 wx))
         case first=>as_aux_lemma =>
          by_cases h1:mid<e
          ·have h1':(mid:Int)<(e:Int):=by omega
           by_cases h2:e<b
           ·have h2':(e:Int)<(b:Int):=by omega
            have hb:b3=true:=by rw [HB.out];simp [h1,h2]
            subst hb;go_wp2_with fail;go_meet;exact ⟨rfl,S1⟩
           ·have h2':¬ (e:Int)<(b:Int):=by omega
            have hb:b3=false:=by rw [HB.out];simp [h2]
            subst hb;go_wp2_with fail;go_meet;exact ⟨rfl,S1⟩
          ·have h1':¬ (mid:Int)<(e:Int):=by omega
           have hb:b3=false:=by rw [HB.out];simp [h1]
           subst hb;go_wp2_with fail;go_meet;exact ⟨rfl,S1⟩
         case rest=>as_aux_lemma =>
          clear S1;obtain ⟨rfl,S1⟩:=hcut;have hf:Hid (∀ d3:Array α,rW (ltOf cf) mid b d2 d3->rW (ltOf cf) a b d d3):=af fun d3 h3=>Du HO.out ay az ah.out hb HL.out HR.out aF.out (by have h:=aS.out;rw [aR.out] at h;exact h) HM_d2.out h3
          cases b3 with
          | true =>
           have hc1:mid<e/\e<b:=by have:=HB.out;simpa using this.symm
           have aH:=af (IH.out mid e b d2 wc (by omega) (by omega) S1.out hc1.1 hc1.2 (by omega) aK.out.1 aK.out.2);clear hc1;go_wp2_with (go_at_fn 261;refine aH.out.mono ?_;rintro e' w2 ⟨rfl,d3,aI,aj⟩);go_end0;exact ⟨rfl,d3,hf.out d3 aI,aj⟩
          | false =>
           have HT:Hid (rW (ltOf cf) mid b d2 d2):=af (rW.triv (by
            have h0:=HB.out;have h1:¬ (mid<e/\e<b):=by simpa using h0.symm
            rcases Nat.lt_or_ge mid e with h2 | h2
            ·have h3:e=b:=by omega
             rw [<-h3];exact aK.out.1
            ·have h3:e=mid:=by omega
             have h4:=aK.out.2;rw [h3] at h4;exact h4))
           go_wp2_with fail;go_end0;exact ⟨rfl,d2,hf.out d2 HT.out,S1.out⟩
end
end
section
open Go.Shelf Go.RowKit Go.Lib Go.Sort
section
variable {α:Type} [Inhabited α] {lt:α->α->Bool}
theorem qu {k x a:Nat} (h1:k ∣ x) (h2:k ∣ a) (h:x<a):x+k<=a:=by
 obtain ⟨u,rfl⟩:=h1;obtain ⟨v,rfl⟩:=h2
 have:u<v:=Nat.lt_of_mul_lt_mul_left h
 have:=Nat.mul_le_mul_left k (show u+1<=v from this);rw [Nat.mul_add,Nat.mul_one] at this;exact this
def wA (lt:α->α->Bool) (k a:Nat) (d:Array α):Prop:=∀ x,k ∣ x->x<a->SortedIn lt x (x+k) d
def uU (lt:α->α->Bool) (k a n:Nat) (d:Array α):Prop:=∀ x,k ∣ x->a<=x->SortedIn lt x (min (x+k) n) d
theorem wA.step {k a:Nat} {d d':Array α} (h:wA lt k a d) (ha:k ∣ a) (hm:rW lt a (a+k) d d'):wA lt k (a+k) d':=by
 intro x hx ag;by_cases e:x<a
 ·have:=qu hx ha e;exact (h x hx e).congr fun i _ h2=>hm.1.2.1 i (.inl (by omega))
 ·have:x=a:=by
   by_cases e2:a<x
   ·have:=qu ha hx e2;omega
   ·omega
  subst this;exact hm.2
theorem wA.last {k a n:Nat} {d d':Array α} (h:wA lt k a d) (ha:k ∣ a) (ag:a<=n) (hn:n<a+k) (hm:rW lt a n d d'):uU lt k 0 n d':=by
 intro x hx _;by_cases e:x<a
 ·have:=qu hx ha e;rw [Nat.min_eq_left (by omega)];exact (h x hx e).congr fun i _ h2=>hm.1.2.1 i (.inl (by omega))
 ·by_cases e2:a<x
  ·have:=qu ha hx e2;rw [Nat.min_eq_right (by omega)];exact fun i j h1 h2 h3=>by omega
  ·have:x=a:=by omega
   subst this;rw [Nat.min_eq_right (by omega)];exact hm.2
theorem uU.step {k a n b:Nat} {d d':Array α} (h:uU lt k a n d) (hab:a<=b) (hp:PermIn a b d d'):uU lt k b n d':=fun x hx ag =>
 (h x hx (by omega)).congr fun i h1 _=>hp.2.1 i (.inr (by omega))
theorem Jt (hO:SWO lt) (d:Array α) (a b:Nat) (hab:a<=b) (hb:b<=d.size):rW lt a b d (Sort.insertionSort lt d a b):=by
 have h:=insertionSort_holds hO d a b hab hb;exact ⟨h.1,h.2⟩
end
def zx:Go.Shelf.Ren:=⟨fun | 20=>260 | n=>n,fun | 24=>99 | 22=>93 | 3=>3 | 25=>196 | 4=>4 | 0=>0 | n=>n,fun | n=>n⟩
theorem Cx:Go.Proofs.SlLaysF0.n20 Tryz.prog zx:={
 mixed:=by kernel_rfl
 f20:=⟨Tryz.f260.name,by decide,Tryz.func260.trans (congrArg some (by kernel_rfl))⟩
 t0:=Tryz.underlying0
 a0:=Tryz.isAgg0
 z0:=Tryz.sizeOf0
 v0:=Tryz.zeroValue0
 t3:=Tryz.underlying3
 a3:=Tryz.isAgg3
 z3:=Tryz.sizeOf3
 v3:=Tryz.zeroValue3
 t4:=Tryz.underlying4
 a4:=Tryz.isAgg4
 z4:=Tryz.sizeOf4
 v4:=Tryz.zeroValue4
 t22:=Tryz.underlying93
 a22:=Tryz.isAgg93
 z22:=Tryz.sizeOf93
 v22:=Tryz.zeroValue93
 t25:=Tryz.underlying196
 a25:=Tryz.isAgg196
 z25:=Tryz.sizeOf196
 v25:=Tryz.zeroValue196 }
theorem yi (blk off size:Nat) (w:World):CmpLays Tryz.prog 188 #[] jv 3 pF blk off size w:=fun _ _ _ _ x y=>Fr x y _
theorem Is {blk off:Nat} {d:Array Nat} {w:World} (hH:HoldsK jv 3 w blk off d) (hb:blk<w.heap.size):RowK jv 3 w blk off d where
 hk _:=rfl
 h1 x v hv:=by simp [jv,iJ] at hv;rcases hv with rfl | rfl | rfl <;> rfl
 hH:=hH
 hblk:=hb
theorem BA (blk off cap:Nat) (d:Array Nat) (w0:World) (hH:HoldsK jv 3 w0 blk off d) (hblk:blk<w0.heap.size) (hsz:d.size<=1000000000) :
  Calls Tryz.prog 240 #[.slice (some ⟨blk,off,none⟩) d.size cap,.int .i64 d.size,.func (.func 188) #[] #[]] w0 fun e w'=>e=.returned (.tuple #[])/\∃ dn,rW (ltOf pF) 0 d.size d dn/\SWK jv 3 w0 blk off dn w':=by
 have R:=Is hH hblk;have eg:∀ args w,(callFunc 188 args).run Tryz.prog w=.ok (.enter 188 args) w:=enters_of Tryz.func188 (by kernel_rfl) rfl
 have ai:Hid (∀ (a b:Nat) (dk:Array Nat) (w:World),dk.size=d.size->SWK jv 3 w0 blk off dk w->a<=b->b<=d.size ->
   Calls Tryz.prog 260 #[.slice (some ⟨blk,off,none⟩) d.size cap,.int .i64 a,.int .i64 b,.func (.func 188) #[] #[]] w fun e w'=>e=.returned (.tuple #[])/\∃ dn,rW (ltOf pF) a b dk dn/\SWK jv 3 w0 blk off dn w') :=
  af fun a b dk w h1 h2 h3 h4=>by
   have:=AnyQ.insertionSortCmpFunc_w (P:=Tryz.prog) Cx 3 Tryz.isAgg99 Tryz.sizeOf99 jv pF 188 #[] blk off cap a b d dk w0 w eg (yi blk off d.size w0) R h1.symm h2 JQ h3 (by omega) (by omega);rw [h1] at this;exact this.mono fun e w' ⟨he,hw⟩=>⟨he,_,Jt JQ dk a b h3 (by omega),hw⟩
 have al:Hid (∀ (a m b:Nat) (dk:Array Nat) (w:World),dk.size=d.size->SWK jv 3 w0 blk off dk w->a<m->m<b->b<=d.size->SortedIn (ltOf pF) a m dk->SortedIn (ltOf pF) m b dk ->
   Calls Tryz.prog 261 #[.slice (some ⟨blk,off,none⟩) d.size cap,.int .i64 a,.int .i64 m,.int .i64 b,.func (.func 188) #[] #[]] w fun e w'=>e=.returned (.tuple #[])/\∃ dn,rW (ltOf pF) a b dk dn/\SWK jv 3 w0 blk off dn w') :=
  af fun a m b dk w h1 h2 h3 h4 h5 h6 h7=>BG 3 Lt jv pF JQ 188 #[] eg blk off cap d w0 (yi blk off d.size w0) R (by omega) (b - a) a m b dk w (Nat.le_refl _) h1.symm h2 h3 h4 (by omega) h6 h7
 have S0:Aside (SWK jv 3 w0 blk off d w0):=SWK.start hH;have HH:Hid _:=R;clear R hH eg;obtain ⟨n,hn⟩:∃ n,n=d.size:=⟨_,rfl⟩;have HN:=af hn;rw [<-hn] at ai al hsz⊢;clear hn;go_enter Tryz.func240,Tryz.ntmps240;go_wp2;go_loopg [7,8] (n+20) (fun kx s7 s8 wr=>∃ (a:Nat) (dk:Array Nat),s7=.int .i64 a/\s8=.int .i64 (a+20:Nat)/\a<=n/\n+20 - a<=kx/\Aside (SWK jv 3 w0 blk off dk wr)/\Hid (20 ∣ a/\PermIn 0 n d dk/\wA (ltOf pF) 20 a dk))
 case atStart=>exact ⟨0,d,rfl,rfl,Nat.zero_le _,by omega,S0,af ⟨⟨0,rfl⟩,permIn_refl _ _ _,fun x _ h=>by omega⟩⟩
 case round =>
  clear S0;obtain ⟨a,dk,rfl,rfl,aJ,aQ,S1,HW⟩:=hrel;obtain ⟨b,hb⟩:∃ b,b=a+20:=⟨_,rfl⟩;rw [<-hb];have aN:dk.size=n:=by rw [HW.out.2.1.1,HN.out]
  by_cases aR:b<=n
  ·have aw:(b:Int)<=(n:Int):=by omega
   have ay:=af (ai.out a b dk wr (by have:=HN.out;omega) S1.out (by omega) (by omega));have HB:=af hb;have aS:(b:Int)+20<4611686018427387904:=by omega
   have a_:a<b:=by omega
   have bd:n+20 - b<n+20 - a:=by omega
   clear hb S1 aN;go_wp2_with (go_at_call 260;refine ay.out.mono ?_;rintro e w2 ⟨rfl,dn,hm,hs⟩)
   have ah:Hid (20 ∣ b/\PermIn 0 n d dn/\wA (ltOf pF) 20 b dn):=by
    obtain ⟨h1,h2,h3⟩:=HW.out;have hm':=hm;rw [HB.out] at hm'⊢;exact af ⟨Nat.dvd_add h1 (Nat.dvd_refl 20),permIn_trans _ _ _ _ _ h2 (permIn_mono _ _ _ _ _ _ (Nat.zero_le _) (by have:=HB.out;omega) (by rw [h2.1,HN.out];omega) hm'.1),h3.step h1 hm'⟩
   have S2:Aside (SWK jv 3 w0 blk off dn w2):=hs;clear hm hs ay HW HB;go_wp2;go_roundg (n+20 - b)
   case measure=>omega
   case rel=>exact ⟨b,dn,rfl,by go_num,aR,Nat.le_refl _,S2,ah⟩
  ·have aw:¬ (b:Int)<=(n:Int):=by omega
   have ay:=af (ai.out a n dk wr (by have:=HN.out;omega) S1.out aJ (Nat.le_refl _));have HB:=af hb;have aO:n<a+20:=by omega
   clear hb S1 aN;go_wp2_with (go_at_call 260;refine ay.out.mono ?_;rintro e w2 ⟨rfl,dn,hm,hs⟩)
   have ah:Hid (PermIn 0 n d dn/\uU (ltOf pF) 20 0 n dn):=by
    obtain ⟨h1,h2,h3⟩:=HW.out;exact af ⟨permIn_trans _ _ _ _ _ h2 (permIn_mono _ _ _ _ _ _ (Nat.zero_le _) (Nat.le_refl _) (by rw [h2.1,HN.out];exact Nat.le_refl _) hm.1),h3.last h1 aJ aO hm⟩
   have S2:Aside (SWK jv 3 w0 blk off dn w2):=hs;clear hm hs ay HW HB;go_wp2;clear ai;go_loopg [6] n (fun kx s6 wr=>∃ (bs:Nat) (dk:Array Nat),s6=.int .i64 bs/\0<bs/\bs<=2000000000/\n - bs<=kx/\Aside (SWK jv 3 w0 blk off dk wr)/\Hid (PermIn 0 n d dk/\uU (ltOf pF) bs 0 n dk))
   case atStart=>exact ⟨20,dn,rfl,by omega,by omega,by omega,S2,ah⟩
   case round =>
    clear S2 ah aw aO aQ aJ;obtain ⟨bs,dk2,rfl,aT,aU,aV,S3,HW⟩:=hrel;by_cases aW:bs<n
    ·have az:(bs:Int)<(n:Int):=by omega
     obtain ⟨t,ht⟩:∃ t,t=2*bs:=⟨_,rfl⟩;have q1:2*(bs:Int)=(t:Int):=by omega
     have q2:(bs:Int)*2=(t:Int):=by omega
     have bf:(t:Int)<=2000000000:=by omega
     have HT:=af ht;have aX:bs<t:=by omega
     clear ht;go_wp2;go_loopg [7,8] (n+t) (fun kx s7 s8 wr=>∃ (a c:Nat) (dk:Array Nat),s7=.int .i64 a/\s8=.int .i64 c/\Hid (c=a+t)/\a<=n/\n+t - a<=kx/\Aside (SWK jv 3 w0 blk off dk wr)/\Hid (t ∣ a/\PermIn 0 n d dk/\wA (ltOf pF) t a dk/\uU (ltOf pF) bs a n dk))
     case atStart=>exact ⟨0,t,dk2,rfl,rfl,af (by omega),Nat.zero_le _,by omega,S3,af ⟨⟨0,rfl⟩,HW.out.1,fun x _ h=>by omega,HW.out.2⟩⟩
     case round =>
      clear S3 HW;obtain ⟨a2,c,dk3,rfl,rfl,aA,aB,aY,S4,HW⟩:=hrel;have aK:=aA.out;obtain ⟨m,hm⟩:∃ m,m=a2+bs:=⟨_,rfl⟩;have q3:(a2:Int)+(bs:Int)=(m:Int):=by omega
      have bh:(m:Int)<=4000000000:=by omega
      have am:dk3.size=d.size:=HW.out.2.1.1;have ap:d.size=n:=HN.out.symm
      have aC:Hid (bs ∣ a2/\bs ∣ m):=af (by
       have h1:bs ∣ a2:=Nat.dvd_trans ⟨2,by have:=HT.out;omega⟩ HW.out.1;exact ⟨h1,by rw [hm];exact Nat.dvd_add h1 (Nat.dvd_refl bs)⟩)
      have HL:Hid (SortedIn (ltOf pF) a2 (min m n) dk3):=af (by rw [hm];exact HW.out.2.2.2 a2 aC.out.1 (Nat.le_refl _))
      have HR:Hid (SortedIn (ltOf pF) m (min c n) dk3):=af (by
       have h:=HW.out.2.2.2 m aC.out.2 (by omega);rw [show m+bs=c by have:=HT.out;omega] at h;exact h)
      by_cases aq:c<=n
      ·have aD:(c:Int)<=(n:Int):=by omega
       have ar:SortedIn (ltOf pF) a2 m dk3:=by have h:=HL.out;rw [Nat.min_eq_left (by omega)] at h;exact h
       have aF:SortedIn (ltOf pF) m c dk3:=by have h:=HR.out;rw [Nat.min_eq_left (by omega)] at h;exact h
       have aG:=af (al.out a2 m c dk3 wr (by omega) S4.out (by omega) (by have:=HT.out;omega) aq ar aF);obtain ⟨c',hc'⟩:∃ c',c'=c+t:=⟨_,rfl⟩;have q4:(c:Int)+(t:Int)=(c':Int):=by omega
       have bi:(c':Int)<=8000000000:=by omega
       have aZ:Hid (c'=c+t):=af hc';have bj:a2<c:=by omega
       clear hm ar aF hc' aK S4 am ap;go_wp2_with (go_at_call 261;refine aG.out.mono ?_;rintro e w3 ⟨rfl,d4,aj,aH⟩)
       have ag:Hid (t ∣ c/\PermIn 0 n d d4/\wA (ltOf pF) t c d4/\uU (ltOf pF) bs c n d4):=by
        obtain ⟨h1,h2,h3,h4⟩:=HW.out;have hc:=aA.out;refine af ⟨by rw [hc];exact Nat.dvd_add h1 (Nat.dvd_refl t),permIn_trans _ _ _ _ _ h2 (permIn_mono _ _ _ _ _ _ (Nat.zero_le _) aq (by rw [h2.1,HN.out];exact Nat.le_refl _) aj.1),?_,h4.step (by omega) aj.1⟩;rw [hc] at aj⊢;exact h3.step h1 aj
       have S5:Aside (SWK jv 3 w0 blk off d4 w3):=aH;have aP:n+t - c<n+t - a2:=by omega
       clear aj aH aG HW aA HL HR aC q3;go_wp2;go_roundg (n+t - c)
       case measure=>omega
       case rel=>exact ⟨c,c',d4,rfl,rfl,aZ,aq,Nat.le_refl _,S5,ag⟩
      ·have aD:¬ (c:Int)<=(n:Int):=by omega
       by_cases aL:m<n
       ·have aI:(m:Int)<(n:Int):=by omega
        have ar:SortedIn (ltOf pF) a2 m dk3:=by have h:=HL.out;rw [Nat.min_eq_left (by omega)] at h;exact h
        have aF:SortedIn (ltOf pF) m n dk3:=by have h:=HR.out;rw [Nat.min_eq_right (by omega)] at h;exact h
        have aG:=af (al.out a2 m n dk3 wr (by omega) S4.out (by omega) aL (by omega) ar aF);have aM:n<a2+t:=by omega
        clear hm ar aF aK S4 am ap;go_wp2_with (go_at_call 261;refine aG.out.mono ?_;rintro e w3 ⟨rfl,d4,aj,aH⟩)
        have ag:Hid (PermIn 0 n d d4/\uU (ltOf pF) t 0 n d4):=by
         obtain ⟨h1,h2,h3,h4⟩:=HW.out;exact af ⟨permIn_trans _ _ _ _ _ h2 (permIn_mono _ _ _ _ _ _ (Nat.zero_le _) (Nat.le_refl _) (by rw [h2.1,HN.out];exact Nat.le_refl _) aj.1),h3.last h1 aB aM aj⟩
        have S5:Aside (SWK jv 3 w0 blk off d4 w3):=aH;have aP:n - t<n - bs:=by omega
        clear aj aH aG HW aA HL HR aC q3;go_wp2;go_roundg (n - t)
        case measure=>omega
        case rel=>exact ⟨t,d4,rfl,by omega,by omega,Nat.le_refl _,S5,ag⟩
       ·have aI:¬ (m:Int)<(n:Int):=by omega
        have aM:n<a2+t:=by omega
        have ag:Hid (PermIn 0 n d dk3/\uU (ltOf pF) t 0 n dk3):=by
         obtain ⟨h1,h2,h3,h4⟩:=HW.out;have ar:SortedIn (ltOf pF) a2 n dk3:=by have h:=HL.out;rw [Nat.min_eq_right (by omega)] at h;exact h
         exact af ⟨h2,h3.last h1 aB aM ⟨permIn_refl _ _ _,ar⟩⟩
        have aP:n - t<n - bs:=by omega
        clear hm aK am ap HW aA HL HR aC;go_wp2;go_roundg (n - t)
        case measure=>omega
        case rel=>exact ⟨t,dk3,rfl,by omega,by omega,Nat.le_refl _,S4,ag⟩
    ·have az:¬ (bs:Int)<(n:Int):=by omega
     have HF:Hid (rW (ltOf pF) 0 n d dk2):=af ⟨HW.out.1,by have h:=HW.out.2 0 ⟨0,rfl⟩ (Nat.le_refl _);rw [Nat.min_eq_right (by omega)] at h;exact h⟩;go_wp2;go_end0;exact ⟨rfl,dk2,HF.out,S3.out⟩
end
def kL (w:World) (v:Value) (L:List Nat):Prop :=
 ∃ (a:Option Addr) (c:Nat),v=.slice a L.length c/\(L.length<=c/\(a=none->c=0))/\L.length<=10000/\(∀ c∈L,ie 152 c) /\
  ∀ i (h:i<L.length),∃ b o,a=some ⟨b,o,none⟩/\w.rangeAt b (o+i*3) (iJ L[i])
theorem nV {w w':World} {b o:Nat} {cs:List Value} (h:w.rangeAt b o cs) (hk:gO w w'):w'.rangeAt b o cs:=fun j v hj=>hk.cell (h j v hj)
theorem kL.kept {w w':World} {v:Value} {L:List Nat} (h:kL w v L) (hk:gO w w'):kL w' v L:=by
 obtain ⟨a,c,h1,h2,h3,h4,h5⟩:=h;exact ⟨a,c,h1,h2,h3,h4,fun i hi=>let ⟨b,o,h6,h7⟩:=h5 i hi;⟨b,o,h6,nV h7 hk⟩⟩
def ix (w:World) (B:Nat) (v:Value) (L:List Nat):Prop :=
 w.ownsRow B 99 3 v L.length (L.flatMap iJ)/\L.length<=10000/\∀ c∈L,ie 152 c
theorem ix.kept {w w':World} {B:Nat} {v:Value} {L:List Nat} (h:ix w B v L) (hk:gO w w'):ix w' B v L:=⟨lT h.1 hk,h.2⟩
theorem ix.mono {w:World} {B B':Nat} {v:Value} {L:List Nat} (h:ix w B v L) (hb:B'<=B):ix w B' v L:=⟨nz h.1 hb,h.2⟩
theorem ix.nil (w:World) (B:Nat):ix w B (.slice none 0 0) []:=⟨World.ownsRow_nil _ _ _ _,by simp,by simp⟩
theorem tD (L:List Nat):(L.flatMap iJ).length=L.length*3:=by
 induction L with
 | nil=>rfl
 | cons c L ih=>simp [iJ,ih];omega
theorem yr (L:List Nat):∀ i (h:i<L.length) j,j<3->(L.flatMap iJ)[i*3+j]?=(iJ L[i])[j]?:=by
 induction L with
 | nil=>intro i h;simp at h
 | cons c L ih =>
  intro i h j hj;rw [List.flatMap_cons];cases i with
  | zero=>rw [List.getElem?_append_left (by simp [iJ];omega)];simp
  | succ i =>
   rw [List.getElem?_append_right (by simp [iJ];omega),show (iJ c).length=3 from rfl,show (i+1)*3+j - 3=i*3+j by omega];exact ih i (by simpa using h) j hj
theorem ix.at {w:World} {B:Nat} {v:Value} {L:List Nat} (h:ix w B v L):kL w v L:=by
 obtain ⟨⟨h1,h2⟩,h3,h4⟩:=h;rcases h2 with ⟨rfl,h6⟩ | ⟨g,cap,cur,rfl,h6,h7,h8,h9,ai,ag⟩
 ·have:L=[]:=List.eq_nil_of_length_eq_zero h6
  subst this;exact ⟨none,0,rfl,⟨by simp,fun _=>rfl⟩,by simp,by simp,fun i h=>by simp at h⟩
 ·refine ⟨some ⟨g,0,none⟩,cap,rfl,⟨h8,fun h=>by cases h⟩,h3,h4,fun i hi=>⟨g,0,rfl,fun j u hj=>?_⟩⟩
  have ah:j<3:=by
   have:=(List.getElem?_eq_some_iff.1 hj).1;simpa [iJ] using this
  have e1:(cur.toList.take (L.length*3))[i*3+j]?=(L.flatMap iJ)[i*3+j]?:=by rw [ag]
  rw [List.getElem?_take_of_lt (by omega),yr L i hi j ah,hj] at e1;simp only [World.cell?,h7,Nat.zero_add];simpa using e1
theorem kL.shape {w:World} {v:Value} {L:List Nat} (h:kL w v L):∃ a c,v=.slice a L.length c:=by
 obtain ⟨a,c,h,_⟩:=h;exact ⟨a,c,h⟩
def oB (c:Nat) (r:Int):Prop:=(∀ j,c.testBit (24+j)=true->(j:Int)<=r)/\(r=-1\/∃ i:Nat,r=i/\c.testBit (24+i)=true)
def ni (L:List Nat) (r:Int):Prop:=(∀ c∈L,∀ j,c.testBit (24+j)=true->(j:Int)<=r)/\(r=-1\/∃ i:Nat,r=i/\∃ c∈L,c.testBit (24+i)=true)
theorem tg {x:Nat} (h:x<18446744073709551616) (h0:x≠0):∃ n,Lib.bitLen x=n+1/\n<64/\x.testBit n=true/\∀ j,x.testBit j=true->j<=n:=by
 obtain ⟨h1,h2,h3⟩:=Lib.bitLenAux_bounds 64 x h h0;have h4:=Lib.bitLen_le x 64 (by omega) h;unfold Lib.bitLen at *;obtain ⟨n,hn⟩:∃ n,Lib.bitLenAux 64 x=n+1:=⟨Lib.bitLenAux 64 x - 1,by omega⟩;rw [hn] at h2 h3 h4;refine ⟨n,hn,by omega,?_,fun j hj=>?_⟩
 ·have h2':2^n<=x:=h2;obtain ⟨i,hi,hb⟩:=Nat.exists_ge_and_testBit_of_ge_two_pow h2';by_cases e:i=n
  ·subst e;exact hb
  ·rw [Nat.testBit_lt_two_pow (Nat.lt_of_lt_of_le h3 (Nat.pow_le_pow_right (by omega) (by omega)))] at hb;cases hb
 ·apply Nat.le_of_not_lt;intro ag;rw [Nat.testBit_lt_two_pow (Nat.lt_of_lt_of_le h3 (Nat.pow_le_pow_right (by omega) (by omega)))] at hj;cases hj
theorem GP {c n:Nat} (h1:(jF c).testBit n=true) (h2:∀ j,(jF c).testBit j=true->j<=n):oB c ((64+n:Nat):Int):=by
 refine ⟨fun j hj=>?_,.inr ⟨64+n,rfl,by rw [jC] at h1;rw [show 24+(64+n)=88+n by omega];exact h1⟩⟩;by_cases c1:j<64
 ·omega
 ·have:=h2 (j - 64) (by rw [jC,show 88+(j - 64)=24+j by omega];exact hj);omega
theorem GQ {c n:Nat} (h0:jF c=0) (h1:(jK c).testBit n=true) (h2:∀ j,(jK c).testBit j=true->j<=n):oB c (n:Int):=by
 have hn:n<64:=by rw [jD] at h1;simp at h1;exact h1.1
 refine ⟨fun j hj=>?_,.inr ⟨n,rfl,by rw [jD] at h1;simp at h1;exact h1.2⟩⟩;by_cases c1:j<64
 ·have:=h2 j (by rw [jD];simp [c1,hj]);omega
 ·have h3:(jF c).testBit (j - 64)=true:=by rw [jC,show 88+(j - 64)=24+j by omega];exact hj
  rw [h0] at h3;simp at h3
theorem BM {c:Nat} (h0:jF c=0) (h1:jK c=0):oB c (-1):=by
 refine ⟨fun j hj=>?_,.inl rfl⟩
 exfalso
 by_cases c1:j<64
 ·have h3:(jK c).testBit j=true:=by rw [jD];simp [c1,hj]
  rw [h1] at h3;simp at h3
 ·have h3:(jF c).testBit (j - 64)=true:=by rw [jC,show 88+(j - 64)=24+j by omega];exact hj
  rw [h0] at h3;simp at h3
theorem ni.snoc {L:List Nat} {c:Nat} {r s:Int} (h:ni L r) (hc:oB c s):ni (L++[c]) (max r s):=by
 obtain ⟨h1,h2⟩:=h;obtain ⟨h3,h4⟩:=hc;refine ⟨fun x hx j hj=>?_,?_⟩
 ·rcases List.mem_append.1 hx with hx | hx
  ·have:=h1 x hx j hj;omega
  ·simp at hx;subst hx;have:=h3 j hj;omega
 ·by_cases e:r<=s
  ·rw [show max r s=s by omega];rcases h4 with h4 | ⟨i,h4,h5⟩
   ·exact .inl h4
   ·exact .inr ⟨i,h4,c,by simp,h5⟩
  ·rw [show max r s=r by omega];rcases h2 with h2 | ⟨i,h2,x,hx,h5⟩
   ·exact .inl h2
   ·exact .inr ⟨i,h2,x,List.mem_append.2 (.inl hx),h5⟩
theorem ni.nil:ni [] (-1):=⟨fun c h=>by simp at h,.inl rfl⟩
theorem wZ (v:Value) (L:List Nat) (w:World) (hv:kL w v L):Calls Tryz.prog 126 #[v] w fun e w'=>(∃ r:Int,e=.returned (.int .i64 r)/\ni L r)/\gO w w':=by
 have HV:=af hv;obtain ⟨sa,sc,hs,_,aD,_⟩:=hv;subst hs;obtain ⟨n,hn⟩:∃ n,n=L.length:=⟨_,rfl⟩;have HN:=af hn;rw [<-hn] at aD⊢;have aB:Hid (kL w (.slice sa n sc) L):=af (by rw [hn];exact HV.out);clear hn HV;go_enter Tryz.func126,Tryz.ntmps126;go_wp2;go_loopg [3,9] n (fun kx s3 s9 wr=>∃ (k:Nat) (r:Int),s3=.int .i64 r/\s9=.int .i64 k/\k<=n/\n - k<=kx/\-1<=r/\r<=1000/\Hid (ni (L.take k) r)/\Hid (gO w wr))
 case atStart=>exact ⟨0,-1,rfl,rfl,Nat.zero_le _,by omega,by omega,by omega,af ni.nil,af (gO.refl _)⟩
 case round =>
  obtain ⟨k,r,rfl,rfl,hk,aL,aF,aG,HG,HK⟩:=hrel;by_cases aM:k<n
  ·have aC:k<L.length:=by have:=HN.out;omega
   obtain ⟨b,o,rfl,ai⟩:∃ b o,sa=some ⟨b,o,none⟩/\wr.rangeAt b (o+k*3) (iJ L[k]):=by
    obtain ⟨a',c',h1,_,_,_,h5⟩:=aB.out.kept HK.out;injection h1 with h1 h2 h3
    subst h1;exact h5 k aC
   have aj:ie 152 L[k]:=by obtain ⟨_,_,_,_,_,h4,_⟩:=aB.out;exact h4 _ (List.getElem_mem _)
   have HS:Hid (∀ s,oB L[k] s->ni (L.take (k+1)) (max r s)):=af fun s hs=>by
    rw [List.take_succ_eq_append_getElem aC];exact HG.out.snoc hs
   have hlo:=nN L[k];have ar:=oJ aj;have aw:Hid (∀ m,(jF L[k]).testBit m=true->(∀ j,(jF L[k]).testBit j=true->j<=m)->oB L[k] ((64+m:Nat):Int)):=af fun m h1 h2=>GP h1 h2
   have ay:Hid (∀ m,jF L[k]=0->(jK L[k]).testBit m=true->(∀ j,(jK L[k]).testBit j=true->j<=m)->oB L[k] (m:Int)):=af fun m h0 h1 h2=>GQ h0 h1 h2
   have az:Hid (jF L[k]=0->jK L[k]=0->oB L[k] (-1)):=af fun h0 h1=>BM h0 h1
   have al:Hid (∀ x W,x<18446744073709551616->Calls Tryz.prog 183 #[.int .u64 (x:Nat)] W fun e w'=>e=.returned (.int .i64 (Lib.bitLen x))/\W=w'):=af fun x W h=>(Tryz.bits_Len64 (x:Int) W (by omega) (by omega)).mono fun _ _ h=>⟨by rw [h.1];simp,h.2.symm⟩
   unfold iJ at ai;generalize iM L[k]=ev at ai;generalize jF L[k]=hi at ai ar aw ay az;generalize jK L[k]=lo at ai hlo aw ay az;have aH:=af ai;clear ai;go_wp2_with (with_reducible refine wpList_load_mid rfl 99 _ rfl b (o+k*3) rfl _ _ aH.out Tryz.underlying99 rfl (by kernel_rfl) ?_);have aA:=HN.out;by_cases ag:hi=0
   ·have b1:((hi:Int) != 0)=false:=by simp [ag]
    by_cases ah:lo=0
    ·have b2:((lo:Int) != 0)=false:=by simp [ah]
     have HF:Hid (ni (L.take (k+1)) r):=af (by have h:=HS.out _ (az.out ag ah);rw [show max r (-1)=r by omega] at h;exact h);clear ag ah aA;refine wp_loop_rounds 3 ?_;rw [rounds_succ];go_wp2;rw [rounds_succ];go_wp2;rw [rounds_succ];go_wp2;go_roundg (n - (k+1))
     case measure=>omega
     case rel=>exact ⟨k+1,r,rfl,by go_num,by omega,Nat.le_refl _,aF,aG,HF,af (HK.out.alloc _)⟩
    ·have b2:((lo:Int) != 0)=true:=by simp;omega
     obtain ⟨m,am,aI,ap,aq⟩:=tg hlo ah;have HC:=af (fun W=>al.out lo W hlo);rw [am] at HC;have HF:Hid (ni (L.take (k+1)) (max r m)):=af (HS.out _ (ay.out m ag ap aq));obtain ⟨m1,hm⟩:∃ x,x=m+1:=⟨_,rfl⟩;rw [<-hm] at HC;have q1:(m1:Int) - 1=(m:Int):=by omega
     have aJ:m1<=64:=by omega
     clear ag ah aA am ap aq hm;refine wp_loop_rounds 2 ?_;rw [rounds_succ];go_wp2;rw [rounds_succ];go_wp2_with (go_at_call 183;refine (HC.out _).mono ?_;rintro e w2 ⟨rfl,rfl⟩);go_roundg (n - (k+1))
     case measure=>omega
     case rel=>exact ⟨k+1,max r m,rfl,by go_num,by omega,Nat.le_refl _,by omega,by omega,HF,af (HK.out.alloc _)⟩
   ·have b1:((hi:Int) != 0)=true:=by simp;omega
    obtain ⟨m,am,aI,ap,aq⟩:=tg ar ag;have HC:=af (fun W=>al.out hi W ar);rw [am] at HC;obtain ⟨z,hz⟩:∃ z,z=64+m:=⟨_,rfl⟩;have HF:Hid (ni (L.take (k+1)) (max r z)):=af (by rw [hz];exact HS.out _ (aw.out m ap aq));obtain ⟨m1,hm⟩:∃ x,x=m+1:=⟨_,rfl⟩;rw [<-hm] at HC;have q1:(64:Int)+(m1:Int) - 1=(z:Int):=by omega
    have aN:z<=1000:=by omega
    have aJ:m1<=64:=by omega
    clear ag aA am ap aq hm hz;refine wp_loop_rounds 1 ?_;rw [rounds_succ];go_wp2_with (go_at_call 183;refine (HC.out _).mono ?_;rintro e w2 ⟨rfl,rfl⟩);go_roundg (n - (k+1))
    case measure=>omega
    case rel=>exact ⟨k+1,max r z,rfl,by go_num,by omega,Nat.le_refl _,by omega,by omega,HF,af (HK.out.alloc _)⟩
  ·have aK:k=n:=by omega
   have HF:Hid (ni L r):=af (by have h:=HG.out;rw [aK,HN.out,List.take_length] at h;exact h);go_wp2;go_ret;exact ⟨⟨_,rfl,HF.out⟩,HK.out⟩
section
open Go.Shelf Go.RowKit Go.Lib Go.Sort
theorem zJ (p:Option Addr) (cap:Nat) (fv:Value) (w:World):Calls Tryz.prog 240 #[.slice p 0 cap,.int .i64 0,fv] w fun e w'=>e=.returned (.tuple #[])/\w=w':=by
 have HI:Hid (∀ W,Calls Tryz.prog 260 #[.slice p 0 cap,.int .i64 0,.int .i64 0,fv] W fun e w'=>e=.returned (.tuple #[])/\W=w'):=af fun W=>(AnyF.insertionSortCmpFunc_none Cx p cap fv W).mono fun _ _ h=>⟨h.1,h.2.symm⟩
 go_enter Tryz.func240,Tryz.ntmps240;go_wp2;refine wp_loop_rounds 1 ?_;rw [rounds_succ];go_wp2_with (go_at_call 260;refine (HI.out _).mono ?_;rintro e w2 ⟨rfl,rfl⟩);refine wp_loop_rounds 1 ?_;rw [rounds_succ];go_wp2;go_end0;exact ⟨rfl,rfl⟩
theorem CY (L:List Nat):∀ i (h:i<L.length) j,j<3->(L.flatMap jv)[i*3+j]?=(jv L[i])[j]?:=by
 induction L with
 | nil=>intro i h;simp at h
 | cons c L ih =>
  intro i h j hj;rw [List.flatMap_cons];cases i with
  | zero=>rw [List.getElem?_append_left (by simp [jv,iJ];omega)];simp
  | succ i =>
   rw [List.getElem?_append_right (by simp [jv,iJ];omega),show (jv c).length=3 from rfl,show (i+1)*3+j - 3=i*3+j by omega];exact ih i (by simpa using h) j hj
theorem Dm (L:List Nat):(L.flatMap jv).length=L.length*3:=by
 induction L with
 | nil=>rfl
 | cons c L ih=>simp [jv,iJ,ih];omega
theorem tx (L:List Nat):(flatK jv 3 L.toArray).toList=L.flatMap jv:=by
 apply List.ext_getElem?;intro t;by_cases h:t<L.length*3
 ·have hi:t / 3<L.length:=by omega
  have e:=CY L (t / 3) hi (t % 3) (by omega);rw [show t / 3*3+t % 3=t by omega] at e;rw [e];have e2:(flatK jv 3 L.toArray)[t]! = (jv L.toArray[t / 3]!)[t % 3]!:=get_flatK jv 3 L.toArray t (by simpa using h)
  have e3:(flatK jv 3 L.toArray).toList[t]?=some (flatK jv 3 L.toArray)[t]!:=by
   have hs:t<(flatK jv 3 L.toArray).size:=by rw [size_flatK];simpa using h
   rw [Array.getElem?_toList,Array.getElem?_eq_getElem hs,getElem!_pos _ t hs]
  rw [e3,e2];have e4:L.toArray[t / 3]! = L[t / 3]:=by rw [getElem!_pos _ _ (by simpa using hi)];simp
  rw [e4];have h3:t % 3<(jv L[t / 3]).length:=by show t % 3<3;omega
  rw [List.getElem?_eq_getElem h3,getElem!_pos (jv L[t / 3]) (t % 3) h3]
 ·rw [List.getElem?_eq_none (by rw [Array.length_toList,size_flatK];simp;omega),List.getElem?_eq_none (by rw [Dm];omega)]
theorem vE {L:List Nat} (h:∀ c∈L,ie 152 c):L.flatMap jv=L.flatMap iJ:=by
 induction L with
 | nil=>rfl
 | cons c L ih =>
  rw [List.flatMap_cons,List.flatMap_cons,ih fun x hx=>h x (List.mem_cons_of_mem _ hx)];unfold jv;rw [xb (h c (List.mem_cons_self ..))]
theorem xQ (B:Nat) (v:Value) (L:List Nat) (w:World) (hv:ix w B v L) (hB:B<=w.heap.size) :
  Calls Tryz.prog 240 #[v,.int .i64 L.length,.func (.func 188) #[] #[]] w fun e w'=>e=.returned (.tuple #[])/\∃ M:List Nat,M.Perm L/\M.Pairwise (fun a b=>pc a<=pc b)/\ix w' B v M/\Below B w w':=by
 obtain ⟨aj,aB,al⟩:=hv;by_cases h0:L=[]
 ·subst h0;have ar:=aj;obtain ⟨_,h2⟩:=aj
  have:∃ p c,v=.slice p 0 c:=by
   rcases h2 with ⟨h2,_⟩ | ⟨g,cap,cur,h2,_⟩
   ·exact ⟨_,_,h2⟩
   ·exact ⟨_,cap,by simpa using h2⟩
  obtain ⟨p,c,rfl⟩:=this;exact (zJ p c _ w).mono fun e w' ⟨h3,h4⟩=>⟨h3,[],.refl _,by simp,by subst h4;exact ⟨ar,by simp,by simp⟩,by subst h4;exact Below.refl _ _⟩
 ·obtain ⟨h1,h2⟩:=aj;rcases h2 with ⟨_,h2⟩ | ⟨g,cap,cur,rfl,hg,hh,hn,hcap,hsz,aw⟩
  ·exact absurd (List.eq_nil_of_length_eq_zero h2) h0
  ·have hH:HoldsK jv 3 w g 0 L.toArray:=by
    intro j hj;have hj':j<L.length*3:=by rw [size_flatK] at hj;simpa using hj
    refine ⟨?_,by simp [World.frozen?,hh]⟩;have e1:(cur.toList.take (L.length*3))[j]?=(L.flatMap iJ)[j]?:=by rw [aw]
    rw [List.getElem?_take_of_lt (by omega),<-vE al,<-tx] at e1;simp only [World.cell?,hh,Nat.zero_add];rw [show cur[j]?=cur.toList[j]? from by simp];simp only [Option.isSome_none,Bool.false_eq_true,if_false];rw [e1,Array.getElem?_toList,Array.getElem?_eq_getElem hj,getElem!_pos _ j hj];rfl
   have hS:=BA g 0 cap L.toArray w hH (mN hh) (by simp;omega);simp only [List.size_toArray] at hS;refine hS.mono fun e w' ⟨h3,dn,hm,n,os,h4⟩=>⟨h3,dn.toList,?_⟩
   clear hS h3;obtain ⟨⟨ay,aC,am⟩,hs⟩:=hm;have ah:dn.size=L.length:=by simpa using ay
   have ag:dn.toList.Perm L:=by
    have e1:dn.extract 0 L.length=dn:=by rw [<-ah];simp
    have e2:L.toArray.extract 0 L.length=L.toArray:=by simp
    rw [e1,e2] at am;simpa using am
   have ai:∀ c∈dn.toList,ie 152 c:=fun c hc=>al c (ag.mem_iff.1 hc)
   refine ⟨ag,?_,?_,?_⟩
   ·rw [List.pairwise_iff_getElem];intro i j hi hj az;have hi':i<dn.size:=by simpa using hi
    have hj':j<dn.size:=by simpa using hj
    have h:=hs i j (Nat.zero_le _) az (by omega);rw [Kt] at h;simp at h;rw [getElem!_pos dn i hi',getElem!_pos dn j hj',xb (ai _ (by simp)),xb (ai _ (by simp))] at h;simpa using h
   ·subst h4;have ap:=oI (id:Value->Value) w n g 0 (flatK jv 3 dn) hh;have aq:=m_ (id:Value->Value) (flatK jv 3 dn) cur (L.length*3) (by rw [size_flatK,ah]) (by rw [hsz];exact Nat.mul_le_mul_right 3 hn);refine ⟨⟨by rw [tD],.inr ⟨g,cap,putCells id 0 (flatK jv 3 dn) cur,by simp [ah],hg,?_,by simp [ah];exact hn,hcap,by rw [aq.1];exact hsz,?_⟩⟩,by simp;omega,ai⟩
    ·show (grow (putRow id (Sort.ahead w n) g 0 (flatK jv 3 dn)) os).heap[g]?=_;rw [heap_grow_old _ _ (mN ap)];exact ap
    ·have:=aq.2;rw [show dn.toList.length*3=L.length*3 by simp [ah],this,<-vE ai];have e:=tx dn.toList;simp only [Array.toArray_toList] at e;rw [e];simp
   ·subst h4;refine ⟨rfl,rfl,rfl,?_,fun k hk=>?_⟩
    ·show w.heap.size<=((w.heap.modify g _)++os).size;simp
    ·have aA:k≠g:=by omega
     show (grow (putRow id (Sort.ahead w n) g 0 (flatK jv 3 dn)) os).heap[k]?=_;rw [heap_grow_old _ _ (by show k<(w.heap.modify g _).size;simp;omega)];exact mq (id:Value->Value) w n g 0 k _ aA
theorem uM (B:Nat) (v:Value) (L:List Nat) (w:World) (hv:ix w B v L) (hB:B<=w.heap.size) :
  Calls Tryz.prog 187 #[v,.func (.func 188) #[] #[]] w fun e w'=>e=.returned (.tuple #[])/\∃ M:List Nat,M.Perm L/\M.Pairwise (fun a b=>pc a<=pc b)/\ix w' B v M/\Below B w w':=by
 have HC:=af (xQ B v L w hv hB);obtain ⟨a,c,rfl⟩:=hv.at.shape;have hl:=hv.2.1;obtain ⟨n,hn⟩:∃ n,n=L.length:=⟨_,rfl⟩;rw [<-hn] at hl HC⊢;clear hv hn;go_enter Tryz.func187,Tryz.ntmps187;go_wp2_with (go_at_call 240;refine HC.out.mono ?_;rintro e w2 ⟨rfl,M,h1,h2,h3,h4⟩);go_end0;exact ⟨rfl,M,h1,h2,h3,h4⟩
end
theorem yz:(Tryz.prog.info? 99).map (fun i=>(i.zero,i.size,i.bytes))=some (some (.agg #[.int .i64 0,.int .u64 0,.int .u64 0]),3,24):=by kernel_rfl
def EB (L:List Nat) (c:Nat):List Nat:=if L.length<=4096 then L++[c] else L
def ListAt (w:World) (gl B:Nat) (v:Value) (L:List Nat):Prop:=gS w gl 144 [v]/\ix w B v L
structure lh (gl:Nat) (v v':Value) (w w':World):Prop where
 os:w'.os=w.os
 tape:w'.tape=w.tape
 output:w'.output=w.output
 size:w.heap.size<=w'.heap.size
 block:∀ k,k<w.heap.size->k≠gl->some k≠v.ownBlock->w'.heap[k]?=w.heap[k]?
 own:v'.ownBlock=v.ownBlock\/∀ g,v'.ownBlock=some g->w.heap.size<=g
theorem lh.of_kept {gl:Nat} {v:Value} {w w':World} (h:gO w w'):lh gl v v w w':=⟨h.os,h.tape,h.output,h.size,fun k hk _ _=>h.block k hk,.inl rfl⟩
theorem lh.trans {gl:Nat} {v v1 v2:Value} {w w1 w2:World} (h:lh gl v v1 w w1) (k:lh gl v1 v2 w1 w2):lh gl v v2 w w2:=by
 have hs:=h.size;refine ⟨k.os.trans h.os,k.tape.trans h.tape,k.output.trans h.output,Nat.le_trans h.size k.size,fun b hb h1 h2=>?_,?_⟩
 ·refine (k.block b (by omega) h1 fun e=>?_).trans (h.block b hb h1 h2);rcases h.own with ho | ho
  ·rw [ho] at e;exact h2 e
  ·have:=ho b e.symm;omega
 ·rcases k.own with ko | ko
  ·rw [ko];exact h.own
  ·exact .inr fun g hg=>by have:=ko g hg;omega
theorem ix.own_ge {w:World} {B:Nat} {v:Value} {L:List Nat} (h:ix w B v L) {g:Nat} (hg:v.ownBlock=some g):B<=g/\g<w.heap.size:=h.1.lt g hg
theorem lh.below {gl B:Nat} {v v':Value} {w w':World} {L:List Nat} (h:lh gl v v' w w') (hv:ix w B v L) (hB:B<=gl) (hl:B<=w.heap.size):Below B w w' :=
 ⟨h.os,h.tape,h.output,h.size,fun k hk=>h.block k (by omega) (by omega) fun e=>by have:=(hv.own_ge e.symm).1;omega⟩
theorem lh.cell {gl:Nat} {v v':Value} {w w':World} (h:lh gl v v' w w') {b o:Nat} {u:Value} (hb:b<w.heap.size) (h1:b≠gl) (h2:some b≠v.ownBlock) (hc:w.cell? ⟨b,o,none⟩=some u):w'.cell? ⟨b,o,none⟩=some u:=by
 have:=h.block b hb h1 h2;simp only [World.cell?,this] at hc⊢;exact hc
theorem Az (w:World) (C O:Obj):((w.alloc C).alloc O).drew.heap[w.heap.size+1]?=some O:=by
 refine (Below.block (gO.refl ((w.alloc C).alloc O)).drew (w.heap.size+1) (by simp)).trans ?_;simpa using heap_alloc_new (w.alloc C) O
theorem p_ {w:World} {gl B:Nat} {v:Value} {L:List Nat} {cs:List Value} (h:ix w B v L) (hx:gS w gl 144 cs):some gl≠v.ownBlock:=by
 obtain ⟨⟨_,h2⟩,_⟩:=h;obtain ⟨cur,ag,_⟩:=hx;intro e;rcases h2 with ⟨rfl,_⟩ | ⟨g,cap,cur2,rfl,_,h7,_⟩
 ·cases e
 ·have:gl=g:=by simpa [Value.ownBlock] using e
  subst this;rw [ag] at h7;injection h7 with h7
  injection h7 with _ h8 _
  exact absurd h8 (by decide)
theorem ix.store_other {w:World} {B g:Nat} {v:Value} {L:List Nat} (h:ix w B v L) (hg:some g≠v.ownBlock) (i:Nat) (u:Value):ix (w.setCell ⟨g,i,none⟩ u) B v L:=by
 obtain ⟨⟨h1,h2⟩,h3⟩:=h;refine ⟨⟨h1,h2.imp id ?_⟩,h3⟩;rintro ⟨b,cap,cur,rfl,h5,h6,h7⟩;refine ⟨b,cap,cur,rfl,h5,?_,h7⟩;have ag:b≠g:=fun e=>hg (by simp [Value.ownBlock,e])
 exact (Below.heap_setCell w ⟨g,i,none⟩ u b ag).trans h6
theorem EC {W w5:World} {gl B n cap gg c:Nat} {L:List Nat} {v:Value} {C O:Obj} (hr:gS W gl 144 [v]) (hv:ix W B v L) (hB:B<=gl) (hc:ie 152 c) (hl:L.length<=4097) (hn:n=L.length)
  (ag:w5.ownsRow B 99 3 (.slice (some ⟨gg,0,none⟩) (n+1) cap) (n+1) (L.flatMap iJ++iJ c)) (hg:((W.alloc C).alloc O).drew.grownBy w5 v.ownBlock) (hat:v.ownBlock=some gg\/gg=W.heap.size+1+1) :
  ListAt (w5.setCell ⟨gl,0,none⟩ (.slice (some ⟨gg,0,none⟩) (n+1) cap)) gl B (.slice (some ⟨gg,0,none⟩) (n+1) cap) (L++[c])/\lh gl v (.slice (some ⟨gg,0,none⟩) (n+1) cap) W (w5.setCell ⟨gl,0,none⟩ (.slice (some ⟨gg,0,none⟩) (n+1) cap)):=by
 have al:=hr.lt;have k1:gO W ((W.alloc C).alloc O).drew:=(((gO.refl W).alloc C).alloc O).drew;have hb:w5.heap[gl]?=W.heap[gl]?:=(hg.block gl (by simp;omega) (p_ hv hr)).trans (k1.block gl al);have ai:=hr.same hb
 have aj:ix w5 B (.slice (some ⟨gg,0,none⟩) (n+1) cap) (L++[c]):=by
  refine ⟨by rw [List.flatMap_append,List.flatMap_cons,List.flatMap_nil,List.append_nil,List.length_append,List.length_singleton,<-hn];exact ag,by simp;omega,fun x hx=>?_⟩;rcases List.mem_append.1 hx with hx | hx
  ·exact hv.2.2 x hx
  ·simp at hx;subst hx;exact hc
 have ah:=p_ aj ai;refine ⟨⟨?_,aj.store_other ah 0 _⟩,?_⟩
 ·have:=ai.store 0 (.slice (some ⟨gg,0,none⟩) (n+1) cap);simpa using this
 ·have h2:Below B ((W.alloc C).alloc O).drew w5:=iD hg (hv.kept k1).1 (by simp;omega);have h3:Below B W (w5.setCell ⟨gl,0,none⟩ (.slice (some ⟨gg,0,none⟩) (n+1) cap)):=Below.setCell ((k1.mono (by omega)).trans h2) hB _;refine ⟨h3.os,h3.tape,h3.output,h3.size,fun k hk e1 e2=>?_,?_⟩
  ·exact (Below.heap_setCell w5 ⟨gl,0,none⟩ _ k e1).trans ((hg.block k (by simp;omega) e2).trans (k1.block k hk))
  ·rcases hat with h | h
   ·exact .inl h.symm
   ·refine .inr fun g hg'=>?_
    have:gg=g:=by simpa [Value.ownBlock] using hg'
    omega
theorem qp (gl B c:Nat) (v:Value) (L:List Nat) (W:World) (hL:ListAt W gl B v L) (hc:ie 152 c) (hl:L.length<=4097) (hB:B<=gl) :
  Calls Tryz.prog 129 #[.pointer (some ⟨gl,0,none⟩),km c] W fun e w'=>e=.returned (.tuple #[])/\∃ v',ListAt w' gl B v' (EB L c)/\lh gl v v' W w':=by
 obtain ⟨hr,hv⟩:=hL;have aA:=hr.lt;have c0:=hr.cell (i:=0) (by simp);have f0:=hr.free 0;simp only [List.getElem_cons_zero] at c0;have ai:=p_ hv hr;obtain ⟨a,cp,aj⟩:=hv.at.shape;obtain ⟨n,hn⟩:∃ n,n=L.length:=⟨_,rfl⟩;unfold EB;rw [<-hn] at aj hl⊢;subst aj;have HR:=af hr;have HV:=af hv;have al:=af ai;have HN:=af hn;unfold km;have HC:Hid (ie 152 c):=hc;have aw:Hid (iJ c=[.int .i64 (iM c),.int .u64 (jK c),.int .u64 (jF c)]):=rfl;generalize iM c=x0 at *;generalize jK c=x1 at *;generalize jF c=x2 at *;clear hr hv ai hn hc;by_cases h:n<=4096
 ·rw [if_pos h];have h':(n:Int)<=4096:=by omega
  obtain ⟨i0,am,ap,aq,ar⟩:=info_parts yz;have I0:=af am;have I1:=af ap;have I2:=af aq;have I3:=af ar;clear am ap aq ar h
  have ay:Hid (∀ C O,(((W.alloc C).alloc O).drew).ownsRow B 99 3 (.slice a n cp) n (L.flatMap iJ)):=af fun C O=>by
   have h:=(HV.out.kept ((((gO.refl W).alloc C).alloc O).drew)).1;rw [<-HN.out] at h;exact h
  have cA:∀ C,(W.alloc C).drew.cell? ⟨gl,0,none⟩=some (.slice a n cp):=fun C=>(((gO.refl W).alloc C).drew).cell c0
  have cB:∀ C O,((W.alloc C).alloc O).drew.cell? ⟨gl,0,none⟩=some (.slice a n cp):=fun C O=>((((gO.refl W).alloc C).alloc O).drew).cell c0
  go_enter Tryz.func129,Tryz.ntmps129;go_wp2;go_region_law ((refine step_append_lies _ (by rfl) _ _ _ (by rfl) B 99 i0 _ 3 24 Tryz.underlying144 I0.out I1.out I2.out I3.out rfl (by omega) (.slice a n cp) n _ (by rfl) (ay.out _ _) ⟨W.heap.size+1,0,none⟩ 1 1 [.int .i64 x0,.int .u64 x1,.int .u64 x2] (by rfl) (by rfl) (World.news_of_block (cs:=#[.int .i64 x0,.int .u64 x1,.int .u64 x2]) (t:=99) (fr:=(0,0)) (Az W _ _)) (by simp [Value.oneCell']) (by omega) (by unfold maxLen;omega) (by omega) (by simp;omega) (W.heap.size+1+1) (by simp) ?_;intro gg cap w5 ah ag hat az;have st5:=ag.cell (a:=⟨gl,0,none⟩) (v:=.slice a n cp) (cB _ _) al.out;have sf5:=(World.frozen?_of_block (a:=⟨gl,0,none⟩) (ag.block gl (by simp;omega) al.out)).trans ((Below.frozen ((((gO.refl W).alloc _).alloc _).drew) (p:=⟨gl,0,none⟩) (by simp;omega)).trans f0)));all_goals go_wp2
  all_goals
   have hs:=EC HR.out HV.out hB HC.out (by have:=HN.out;omega) HN.out (c:=c) (by rw [aw.out];exact ah) ag hat;go_end0;exact ⟨rfl,_,hs⟩
 ·rw [if_neg h];have h':¬ (n:Int)<=4096:=by omega
  go_enter Tryz.func129,Tryz.ntmps129;go_wp2;go_end0;exact ⟨rfl,_,⟨HR.out.kept ((gO.refl _).alloc _),HV.out.kept ((gO.refl _).alloc _)⟩,lh.of_kept ((gO.refl _).alloc _)⟩
theorem lw (V:Nat):∀ (args:List Int) (k r:Nat),args.length<k->hJ V args k r=[]
 | [],k,r,h=>by unfold hJ;rw [if_neg (by simp at h;omega)]
 | a :: l,k,r,h=>by
  simp at h;unfold hJ;rw [if_neg (by omega),lw V l (k - 1) _ (by omega),lw V l k _ (by omega)];rfl
theorem rb (l m:List Nat) (n:Nat):(l.take n++m).take n=(l++m).take n:=by
 rw [List.take_append,List.take_append,List.take_take,Nat.min_self,List.length_take];congr 1;by_cases h:n<=l.length
 ·rw [Nat.min_eq_left h,Nat.sub_self,show n - l.length=0 by omega]
 ·rw [Nat.min_eq_right (by omega)]
theorem oU {L:List Nat} {c:Nat} (h:L.length<=4097):EB L c=(L++[c]).take 4097:=by
 unfold EB;split
 ·rw [List.take_of_length_le (by simp;omega)]
 ·rw [List.take_append,show 4097 - L.length=0 by omega,List.take_of_length_le (by omega)];simp
theorem vK {w:World} {b o n c:Nat} {x:Int} {l:List Int} (h:gU w (.slice (some ⟨b,o,none⟩) n c) (x :: l)) (hc:2<=c):gU w (.slice (some ⟨b,o+1,none⟩) (n - 1) (c - 1)) l:=by
 obtain ⟨a,c',h1,h2,h3,h4⟩:=h;injection h1 with e1 e2 e3
 subst e1 e2 e3;simp at h2 h3;refine ⟨some ⟨b,o+1,none⟩,c - 1,by simp,⟨by omega,fun h=>by cases h⟩,by omega,fun i hi=>?_⟩;obtain ⟨b',o',h5,h6⟩:=h4 (i+1) (by simpa using hi);injection h5 with h5
 injection h5 with h7 h8
 subst h7 h8;exact ⟨b,o+1,rfl,by rw [show o+1+i=o+(i+1) by omega,h6];simp⟩
theorem ListAt.kept {w w':World} {gl B:Nat} {v:Value} {L:List Nat} (h:ListAt w gl B v L) (hk:gO w w'):ListAt w' gl B v L:=⟨h.1.kept hk,h.2.kept hk⟩
theorem rZ (gl B V m k r:Nat) (T:Int) (fa aa:Option Addr) (fn fc ac:Nat) (v:Value) (L:List Nat) (W:World) (hB:B<=gl) (hL:ListAt W gl B v L) (hl:L.length<=4097) (hr:ie 152 r) (hk:k<=1000) (hm:m<=1000) (hc:L.length=4097\/m<k\/k=0) :
  Calls Tryz.prog 185 #[.pointer (some ⟨gl,0,none⟩),.agg #[.int .i64 V,.slice fa fn fc,.int .i64 T],km r,.slice aa m ac,.int .i64 k] W fun e w'=>e=.returned (.tuple #[])/\∃ v',ListAt w' gl B v' (if L.length=4097\/m<k then L else L++[r])/\lh gl v v' W w':=by
 have ag:Hid (∀ W',gO W W'->L.length<=4096->Calls Tryz.prog 129 #[.pointer (some ⟨gl,0,none⟩),km r] W' fun e w'=>e=.returned (.tuple #[])/\∃ v',ListAt w' gl B v' (L++[r])/\lh gl v v' W' w'):=af fun W' hk h=>by
  have:=qp gl B r v L W' (hL.kept hk) hr hl hB;unfold EB at this;rw [if_pos h] at this;exact this
 have HL:=af hL;obtain ⟨ah,hv⟩:=hL;have c0:=ah.cell (i:=0) (by simp);simp only [List.getElem_cons_zero] at c0;obtain ⟨la,lc,ai⟩:=hv.at.shape;obtain ⟨n,hn⟩:∃ n,n=L.length:=⟨_,rfl⟩;rw [<-hn] at ai hl hc ag⊢;subst ai;have al:=ah.lt;unfold km at *;generalize iM r=x0 at *;generalize jK r=x1 at *;generalize jF r=x2 at *;clear ah hv hr hn;by_cases h1:n=4097
 ·rw [if_pos (.inl h1)];have h1':(4096:Int)<(n:Int):=by omega
  clear h1 hc;go_enter Tryz.func185,Tryz.ntmps185;go_wp2;refine bodyPost_ret (results_none rfl _ _ _) rfl ?_;exact ⟨rfl,_,HL.out.kept (((gO.refl _).alloc _).alloc _),lh.of_kept (((gO.refl _).alloc _).alloc _)⟩
 ·have h1':¬ (4096:Int)<(n:Int):=by omega
  by_cases h2:m<k
  ·rw [if_pos (.inr h2)];have h2':(m:Int)<(k:Int):=by omega
   clear h1 hc h2;go_enter Tryz.func185,Tryz.ntmps185;go_wp2;refine bodyPost_ret (results_none rfl _ _ _) rfl ?_;exact ⟨rfl,_,HL.out.kept (((gO.refl _).alloc _).alloc _),lh.of_kept (((gO.refl _).alloc _).alloc _)⟩
  ·rw [if_neg (by omega)];have aj:k=0:=by omega
   subst aj;have h2':¬ (m:Int)<0:=by omega
   have HA:=af (fun W' hk=>ag.out W' hk (by omega));clear h1 hc h2 ag;go_enter Tryz.func185,Tryz.ntmps185;go_wp2_with (go_at_call 129;refine (HA.out _ (((gO.refl _).alloc _).alloc _)).mono ?_;rintro e w2 ⟨rfl,v',h3,h4⟩);refine bodyPost_ret (results_none rfl _ _ _) rfl ?_;exact ⟨rfl,v',h3,(lh.of_kept (((gO.refl W).alloc _).alloc _)).trans h4⟩
theorem yh (gl B V n m k k1 b o ac x0 x1 x2 y0 y1 y2:Nat) (T a:Int) (fa la:Option Addr) (fn fc lc:Nat) (tv:Value) (L1 L2:List Nat) (W:World) (aT:gl<W.heap.size) (c0:W.cell? ⟨gl,0,none⟩=some (.slice la n lc)) (aj:∀ g,(Value.slice la n lc).ownBlock=some g->g<W.heap.size)
  (hn:n<=4096) (hk:1<=k) (aI:k<=m) (hm:m<=200) (aU:m<=ac) (aJ:k1=k - 1) (aM:(2<=ac/\tv=.slice (some ⟨b,o+1,none⟩) (m - 1) (ac - 1))\/(ac=1/\tv=.slice (some ⟨b,o,none⟩) 0 0))
  (ap:∀ v1 w',lh gl (.slice la n lc) v1 W w'->w'.cell? ⟨b,o,none⟩=some (.int .i64 a)) (_hbo:b<W.heap.size)
  (al:∀ W',Calls Tryz.prog 125 #[.agg #[.int .i64 x0,.int .u64 x1,.int .u64 x2],.agg #[.int .i64 V,.slice fa fn fc,.int .i64 T],.int .i64 a] W' fun e w'=>e=.returned (.agg #[.int .i64 y0,.int .u64 y1,.int .u64 y2])/\gO W' w')
  (hc1:∀ W',gO W W'->Calls Tryz.prog 185 #[.pointer (some ⟨gl,0,none⟩),.agg #[.int .i64 V,.slice fa fn fc,.int .i64 T],.agg #[.int .i64 y0,.int .u64 y1,.int .u64 y2],tv,.int .i64 k1] W' fun e w'=>e=.returned (.tuple #[])/\∃ v1,ListAt w' gl B v1 L1/\lh gl (.slice la n lc) v1 W' w')
  (hc2:∀ v1 W',ListAt W' gl B v1 L1->lh gl (.slice la n lc) v1 W W'->Calls Tryz.prog 185 #[.pointer (some ⟨gl,0,none⟩),.agg #[.int .i64 V,.slice fa fn fc,.int .i64 T],.agg #[.int .i64 x0,.int .u64 x1,.int .u64 x2],tv,.int .i64 k] W' fun e w'=>e=.returned (.tuple #[])/\∃ v2,ListAt w' gl B v2 L2/\lh gl v1 v2 W' w') :
  Calls Tryz.prog 185 #[.pointer (some ⟨gl,0,none⟩),.agg #[.int .i64 V,.slice fa fn fc,.int .i64 T],.agg #[.int .i64 x0,.int .u64 x1,.int .u64 x2],.slice (some ⟨b,o,none⟩) m ac,.int .i64 k] W fun e w'=>e=.returned (.tuple #[])/\∃ v2,ListAt w' gl B v2 L2/\lh gl (.slice la n lc) v2 W w':=by
 obtain ⟨w1,am⟩:∃ w1,w1=(W.alloc (.cells #[.int .i64 V,.slice fa fn fc,.int .i64 T] 41)).alloc (.cells #[.int .i64 x0,.int .u64 x1,.int .u64 x2] 99):=⟨_,rfl⟩;have aw:gO W w1:=by rw [am];exact ((gO.refl _).alloc _).alloc _
 have hsz:w1.heap.size=W.heap.size+1+1:=by rw [am];simp
 have q0:w1.cell? ⟨W.heap.size,0,none⟩=some (.int .i64 V):=by rw [am];simp
 have q1:w1.cell? ⟨W.heap.size,1,none⟩=some (.slice fa fn fc):=by rw [am];simp
 have q2:w1.cell? ⟨W.heap.size,2,none⟩=some (.int .i64 T):=by rw [am];simp
 have q3:w1.cell? ⟨W.heap.size+1,0,none⟩=some (.int .i64 x0):=by rw [am];simp
 have q4:w1.cell? ⟨W.heap.size+1,1,none⟩=some (.int .u64 x1):=by rw [am];simp
 have q5:w1.cell? ⟨W.heap.size+1,2,none⟩=some (.int .u64 x2):=by rw [am];simp
 have qa:=ap _ w1 (lh.of_kept aw)
 have aA:Hid (∀ W',gO w1 W'->Calls Tryz.prog 185 #[.pointer (some ⟨gl,0,none⟩),.agg #[.int .i64 V,.slice fa fn fc,.int .i64 T],.agg #[.int .i64 y0,.int .u64 y1,.int .u64 y2],tv,.int .i64 k1] W' fun e w'=>e=.returned (.tuple #[])/\(∃ v1,ListAt w' gl B v1 L1/\lh gl (.slice la n lc) v1 w1 w') /\
   (w'.cell? ⟨W.heap.size,0,none⟩=some (.int .i64 V)/\w'.cell? ⟨W.heap.size,1,none⟩=some (.slice fa fn fc)/\w'.cell? ⟨W.heap.size,2,none⟩=some (.int .i64 T)/\w'.cell? ⟨W.heap.size+1,0,none⟩=some (.int .i64 x0)/\w'.cell? ⟨W.heap.size+1,1,none⟩=some (.int .u64 x1)/\w'.cell? ⟨W.heap.size+1,2,none⟩=some (.int .u64 x2)/\w'.cell? ⟨b,o,none⟩=some (.int .i64 a))):=af fun W' hk=>by
  refine (hc1 W' (aw.trans hk)).mono fun e w' ⟨he,v1,h1,h2⟩=>⟨he,⟨v1,h1,(lh.of_kept hk).trans h2⟩,?_⟩
  have hs:=hk.size;have ag:some W.heap.size≠(Value.slice la n lc).ownBlock:=fun e=>by have:=aj _ e.symm;omega
  have ah:some (W.heap.size+1)≠(Value.slice la n lc).ownBlock:=fun e=>by have:=aj _ e.symm;omega
  exact ⟨h2.cell (by omega) (by omega) ag (hk.cell q0),h2.cell (by omega) (by omega) ag (hk.cell q1),h2.cell (by omega) (by omega) ag (hk.cell q2),h2.cell (by omega) (by omega) ah (hk.cell q3),h2.cell (by omega) (by omega) ah (hk.cell q4),h2.cell (by omega) (by omega) ah (hk.cell q5),ap _ _ ((lh.of_kept (aw.trans hk)).trans h2)⟩
 have aB:=af hc2;have ay:=af aj;have aC:=af al;have aK:=af aw;have aL:Hid (w1=(W.alloc (.cells #[.int .i64 V,.slice fa fn fc,.int .i64 T] 41)).alloc (.cells #[.int .i64 x0,.int .u64 x1,.int .u64 x2] 99)):=af am;have hn':¬ (4096:Int)<(n:Int):=by omega
 have aN:¬ (m:Int)<(k:Int):=by omega
 have aV:((k:Int) == 0)=false:=by simp;omega
 have aW:(0:Int)<(m:Int):=by omega
 have aX:1<=(m:Int):=by omega
 have aY:0<m:=by omega
 have aZ:(k:Int)<=200:=by omega
 have aO:1<=(k:Int):=by omega
 have aP:1<=(ac:Int):=by omega
 have a_:(k:Int) - 1=(k1:Int):=by omega
 rcases aM with ⟨aD,rfl⟩ | ⟨aD,rfl⟩
 ·have aQ:¬ ac=1:=by omega
  have aR:¬ (ac:Int)=1:=by omega
  have ar:IntKind.i64.wrap (k1:Int)=(k1:Int):=by rw [IntKind.wrap_i64];omega
  clear hc1 hc2 al aw aj ap aJ aD hn hk aI am;go_enter Tryz.func185,Tryz.ntmps185;go_wp2;rw [<-aL.out];go_upto_region 4 with fail
  go_cut [] (fun wx=>(∃ v1,Hid (ListAt wx gl B v1 L1)/\Hid (lh gl (.slice la n lc) v1 w1 wx))/\(wx.cell? ⟨W.heap.size,0,none⟩=some (.int .i64 V)/\wx.cell? ⟨W.heap.size,1,none⟩=some (.slice fa fn fc)/\wx.cell? ⟨W.heap.size,2,none⟩=some (.int .i64 T)/\wx.cell? ⟨W.heap.size+1,0,none⟩=some (.int .i64 x0)/\wx.cell? ⟨W.heap.size+1,1,none⟩=some (.int .u64 x1)/\wx.cell? ⟨W.heap.size+1,2,none⟩=some (.int .u64 x2)))
  case first =>
   go_region_held3 (fun w'=>w'.cell? ⟨W.heap.size,0,none⟩=some (.int .i64 V)/\w'.cell? ⟨W.heap.size,1,none⟩=some (.slice fa fn fc)/\w'.cell? ⟨W.heap.size,2,none⟩=some (.int .i64 T)/\w'.cell? ⟨W.heap.size+1,0,none⟩=some (.int .i64 x0)/\w'.cell? ⟨W.heap.size+1,1,none⟩=some (.int .u64 x1)/\w'.cell? ⟨W.heap.size+1,2,none⟩=some (.int .u64 x2)/\w'.cell? ⟨b,o,none⟩=some (.int .i64 a))
    (first | go_keep | exact ⟨ai.cell q0,ai.cell q1,ai.cell q2,ai.cell q3,ai.cell q4,ai.cell q5,ai.cell qa⟩ | exact aq)
    (first | (go_at_call 125;refine (aC.out _).mono ?_;rintro e w3 ⟨rfl,ai⟩) | (go_at_call 185;refine (aA.out _ ((gO.refl _).drew.trans ai)).mono ?_;rintro e w4 ⟨rfl,h4,aq⟩))
   all_goals
    obtain ⟨v1,h5,h6⟩:=h4;have aF:=af h5;have aG:=af h6;obtain ⟨g0,g1,g2,g3,g4,g5,_⟩:=aq;clear h5 h6;go_wp2_with fail;go_meet;exact ⟨⟨v1,aF,aG⟩,g0,g1,g2,g3,g4,g5⟩
  case rest =>
   obtain ⟨⟨v1,h5,h6⟩,g0,g1,g2,g3,g4,g5⟩:=hcut;clear q0 q1 q2 q3 q4 q5 qa aA aC ar
   have aH:Hid (∀ W',gO wc W'->Calls Tryz.prog 185 #[.pointer (some ⟨gl,0,none⟩),.agg #[.int .i64 V,.slice fa fn fc,.int .i64 T],.agg #[.int .i64 x0,.int .u64 x1,.int .u64 x2],.slice (some ⟨b,o+1,none⟩) (m - 1) (ac - 1),.int .i64 k] W' fun e w'=>e=.returned (.tuple #[])/\(∃ v2,Hid (ListAt w' gl B v2 L2)/\Hid (lh gl (.slice la n lc) v2 W w'))/\(w'.cell? ⟨W.heap.size,0,none⟩=some (.int .i64 V)/\w'.cell? ⟨W.heap.size,1,none⟩=some (.slice fa fn fc)/\w'.cell? ⟨W.heap.size,2,none⟩=some (.int .i64 T)/\w'.cell? ⟨W.heap.size+1,0,none⟩=some (.int .i64 x0)/\w'.cell? ⟨W.heap.size+1,1,none⟩=some (.int .u64 x1)/\w'.cell? ⟨W.heap.size+1,2,none⟩=some (.int .u64 x2))):=af fun W' hk=>by
    have hf:=(lh.of_kept aK.out).trans (h6.out.trans (lh.of_kept hk));refine (aB.out v1 W' (h5.out.kept hk) hf).mono fun _ _ ⟨he,v2,e1,e2⟩=>⟨he,⟨v2,af e1,af (hf.trans e2)⟩,?_⟩
    have hs:=hk.size;have aS:=h6.out.size
    have az:∀ j,j<2->some (W.heap.size+j)≠v1.ownBlock:=fun j hj e=>by
     rcases h6.out.own with h | h
     ·rw [h] at e;have:=ay.out _ e.symm;omega
     ·have:=h _ e.symm;omega
    have ag:=az 0 (by omega);have ah:=az 1 (by omega);exact ⟨e2.cell (by omega) (by omega) ag (hk.cell g0),e2.cell (by omega) (by omega) ag (hk.cell g1),e2.cell (by omega) (by omega) ag (hk.cell g2),e2.cell (by omega) (by omega) ah (hk.cell g3),e2.cell (by omega) (by omega) ah (hk.cell g4),e2.cell (by omega) (by omega) ah (hk.cell g5)⟩
   clear aB h5 h6;go_upto_region 5 with fail
   go_region_held3 (fun w'=>w'.cell? ⟨W.heap.size,0,none⟩=some (.int .i64 V)/\w'.cell? ⟨W.heap.size,1,none⟩=some (.slice fa fn fc)/\w'.cell? ⟨W.heap.size,2,none⟩=some (.int .i64 T)/\w'.cell? ⟨W.heap.size+1,0,none⟩=some (.int .i64 x0)/\w'.cell? ⟨W.heap.size+1,1,none⟩=some (.int .u64 x1)/\w'.cell? ⟨W.heap.size+1,2,none⟩=some (.int .u64 x2))
    (first | go_keep | exact aq)
    (first | (go_at_call 185;refine (aH.out _ ((gO.refl _).drew)).mono ?_;rintro e w4 ⟨rfl,⟨v2,h7,h8⟩,aq⟩))
   all_goals
    go_wp2;go_end0;exact ⟨rfl,v2,h7.out,h8.out⟩
 ·subst aD;have ar:IntKind.i64.wrap (k1:Int)=(k1:Int):=by rw [IntKind.wrap_i64];omega
  clear hc1 hc2 al aw aj ap aJ hn hk aI am;go_enter Tryz.func185,Tryz.ntmps185;go_wp2;rw [<-aL.out];go_upto_region 4 with fail
  go_cut [] (fun wx=>(∃ v1,Hid (ListAt wx gl B v1 L1)/\Hid (lh gl (.slice la n lc) v1 w1 wx))/\(wx.cell? ⟨W.heap.size,0,none⟩=some (.int .i64 V)/\wx.cell? ⟨W.heap.size,1,none⟩=some (.slice fa fn fc)/\wx.cell? ⟨W.heap.size,2,none⟩=some (.int .i64 T)/\wx.cell? ⟨W.heap.size+1,0,none⟩=some (.int .i64 x0)/\wx.cell? ⟨W.heap.size+1,1,none⟩=some (.int .u64 x1)/\wx.cell? ⟨W.heap.size+1,2,none⟩=some (.int .u64 x2)))
  case first =>
   go_region_held3 (fun w'=>w'.cell? ⟨W.heap.size,0,none⟩=some (.int .i64 V)/\w'.cell? ⟨W.heap.size,1,none⟩=some (.slice fa fn fc)/\w'.cell? ⟨W.heap.size,2,none⟩=some (.int .i64 T)/\w'.cell? ⟨W.heap.size+1,0,none⟩=some (.int .i64 x0)/\w'.cell? ⟨W.heap.size+1,1,none⟩=some (.int .u64 x1)/\w'.cell? ⟨W.heap.size+1,2,none⟩=some (.int .u64 x2)/\w'.cell? ⟨b,o,none⟩=some (.int .i64 a))
    (first | go_keep | exact ⟨ai.cell q0,ai.cell q1,ai.cell q2,ai.cell q3,ai.cell q4,ai.cell q5,ai.cell qa⟩ | exact aq)
    (first | (go_at_call 125;refine (aC.out _).mono ?_;rintro e w3 ⟨rfl,ai⟩) | (go_at_call 185;refine (aA.out _ ((gO.refl _).drew.trans ai)).mono ?_;rintro e w4 ⟨rfl,h4,aq⟩))
   all_goals
    obtain ⟨v1,h5,h6⟩:=h4;have aF:=af h5;have aG:=af h6;obtain ⟨g0,g1,g2,g3,g4,g5,_⟩:=aq;clear h5 h6;go_wp2_with fail;go_meet;exact ⟨⟨v1,aF,aG⟩,g0,g1,g2,g3,g4,g5⟩
  case rest =>
   obtain ⟨⟨v1,h5,h6⟩,g0,g1,g2,g3,g4,g5⟩:=hcut;clear q0 q1 q2 q3 q4 q5 qa aA aC ar
   have aH:Hid (∀ W',gO wc W'->Calls Tryz.prog 185 #[.pointer (some ⟨gl,0,none⟩),.agg #[.int .i64 V,.slice fa fn fc,.int .i64 T],.agg #[.int .i64 x0,.int .u64 x1,.int .u64 x2],.slice (some ⟨b,o,none⟩) 0 0,.int .i64 k] W' fun e w'=>e=.returned (.tuple #[])/\(∃ v2,Hid (ListAt w' gl B v2 L2)/\Hid (lh gl (.slice la n lc) v2 W w'))/\(w'.cell? ⟨W.heap.size,0,none⟩=some (.int .i64 V)/\w'.cell? ⟨W.heap.size,1,none⟩=some (.slice fa fn fc)/\w'.cell? ⟨W.heap.size,2,none⟩=some (.int .i64 T)/\w'.cell? ⟨W.heap.size+1,0,none⟩=some (.int .i64 x0)/\w'.cell? ⟨W.heap.size+1,1,none⟩=some (.int .u64 x1)/\w'.cell? ⟨W.heap.size+1,2,none⟩=some (.int .u64 x2))):=af fun W' hk=>by
    have hf:=(lh.of_kept aK.out).trans (h6.out.trans (lh.of_kept hk));refine (aB.out v1 W' (h5.out.kept hk) hf).mono fun _ _ ⟨he,v2,e1,e2⟩=>⟨he,⟨v2,af e1,af (hf.trans e2)⟩,?_⟩
    have hs:=hk.size;have aS:=h6.out.size
    have az:∀ j,j<2->some (W.heap.size+j)≠v1.ownBlock:=fun j hj e=>by
     rcases h6.out.own with h | h
     ·rw [h] at e;have:=ay.out _ e.symm;omega
     ·have:=h _ e.symm;omega
    have ag:=az 0 (by omega);have ah:=az 1 (by omega);exact ⟨e2.cell (by omega) (by omega) ag (hk.cell g0),e2.cell (by omega) (by omega) ag (hk.cell g1),e2.cell (by omega) (by omega) ag (hk.cell g2),e2.cell (by omega) (by omega) ah (hk.cell g3),e2.cell (by omega) (by omega) ah (hk.cell g4),e2.cell (by omega) (by omega) ah (hk.cell g5)⟩
   clear aB h5 h6;go_upto_region 5 with fail
   go_region_held3 (fun w'=>w'.cell? ⟨W.heap.size,0,none⟩=some (.int .i64 V)/\w'.cell? ⟨W.heap.size,1,none⟩=some (.slice fa fn fc)/\w'.cell? ⟨W.heap.size,2,none⟩=some (.int .i64 T)/\w'.cell? ⟨W.heap.size+1,0,none⟩=some (.int .i64 x0)/\w'.cell? ⟨W.heap.size+1,1,none⟩=some (.int .u64 x1)/\w'.cell? ⟨W.heap.size+1,2,none⟩=some (.int .u64 x2))
    (first | go_keep | exact aq)
    (first | (go_at_call 185;refine (aH.out _ ((gO.refl _).drew)).mono ?_;rintro e w4 ⟨rfl,⟨v2,h7,h8⟩,aq⟩))
   all_goals
    go_wp2;go_end0;exact ⟨rfl,v2,h7.out,h8.out⟩
theorem Ah (gl B V:Nat) (T:Int) (v0:Value) (W0:World) (hs:∃ a n c,v0=.slice a n c) (hV:V<=24) (hB:B<=gl) (_hBW:B<=W0.heap.size) :
  ∀ (args:List Int) (va:Value),(∀ w',Below B W0 w'->gU w' va args)->(∀ a∈args,0<=a/\a<(V:Int)+128)->args.length<=100->∀ (k r:Nat) (v:Value) (L:List Nat) (W:World),Below B W0 W->ListAt W gl B v L->L.length<=4097->ie 152 r->k<=1000 ->
   Calls Tryz.prog 185 #[.pointer (some ⟨gl,0,none⟩),.agg #[.int .i64 V,v0,.int .i64 T],km r,va,.int .i64 k] W fun e w'=>e=.returned (.tuple #[])/\∃ v',ListAt w' gl B v' ((L++hJ V args k r).take 4097)/\lh gl v v' W w':=by
 obtain ⟨fa,fn,fc,rfl⟩:=hs;intro args;induction args with
 | nil =>
  intro va ag _ _ k r v L W hW hL hl hr hk;obtain ⟨aa,an,ac,rfl⟩:=(ag W hW).shape
  have ap:an=0:=by
   obtain ⟨_,_,h,_⟩:=ag W hW;injection h
  subst ap;have:=rZ gl B V 0 k r T fa aa fn fc ac v L W hB hL hl hr hk (by omega) (by omega);refine this.mono fun e w' ⟨he,v',h1,h2⟩=>⟨he,v',?_,h2⟩
  unfold hJ;by_cases ar:k=0
  ·rw [if_pos ar];by_cases h9:L.length=4097
   ·rw [if_pos (.inl h9)] at h1;rw [List.take_append,h9,List.take_of_length_le (by omega)];simpa using h1
   ·rw [if_neg (by omega)] at h1;rw [List.take_of_length_le (by simp;omega)];exact h1
  ·rw [if_neg ar,List.append_nil,List.take_of_length_le hl];rw [if_pos (.inr (by omega))] at h1;exact h1
 | cons a l ih =>
  intro va ag ah am k r v L W hW hL hl hr hk;obtain ⟨aa,an,ac,rfl⟩:=(ag W hW).shape
  have ap:an=l.length+1:=by
   obtain ⟨_,_,h,_⟩:=ag W hW;injection h
  subst ap;by_cases aj:L.length=4097\/l.length+1<k\/k=0
  ·have:=rZ gl B V (l.length+1) k r T fa aa fn fc ac v L W hB hL hl hr hk (by simp at am;omega) aj;refine this.mono fun e w' ⟨he,v',h1,h2⟩=>⟨he,v',?_,h2⟩
   by_cases h9:L.length=4097
   ·rw [if_pos (.inl h9)] at h1;rw [List.take_append,h9,List.take_of_length_le (by omega)];simpa using h1
   ·by_cases h8:l.length+1<k
    ·rw [if_pos (.inr h8)] at h1;rw [lw V (a :: l) k r (by simpa using h8),List.append_nil,List.take_of_length_le hl];exact h1
    ·rw [if_neg (by omega)] at h1;unfold hJ;rw [if_pos (by omega),List.take_of_length_le (by simp;omega)];exact h1
  ·have aA:L.length<=4096:=by omega
   have aB:1<=k:=by omega
   have aC:k<=l.length+1:=by omega
   obtain ⟨k1,al⟩:∃ k1,k1=k - 1:=⟨_,rfl⟩;have aw:∀ x∈l,0<=x/\x<(V:Int)+128:=fun x hx=>ah x (List.mem_cons_of_mem _ hx)
   have ha:=ah a (List.mem_cons_self ..);have aD:ie 152 (iv V r a):=mB hr (lL (j' (V:=V) (m:=128) (by omega) hV) (by omega))
   obtain ⟨b,o,rfl,ay⟩:∃ b o,aa=some ⟨b,o,none⟩/\∀ w',Below B W0 w'->w'.cell? ⟨b,o,none⟩=some (.int .i64 a):=by
    obtain ⟨a',c',h1,_,_,h4⟩:=ag W hW;injection h1 with h1 h2 h3
    obtain ⟨b,o,h5,_⟩:=h4 0 (by simp);refine ⟨b,o,by rw [h1,h5],fun w' hw'=>?_⟩;obtain ⟨a2,c2,g1,_,_,g4⟩:=ag w' hw';injection g1 with g1 g2 g3
    obtain ⟨b2,o2,g5,g6⟩:=g4 0 (by simp);rw [<-g1,h1,h5] at g5;injection g5 with g5
    injection g5 with g7 g8
    subst g7 g8;simpa using g6
   have aF:l.length+1<=ac:=by
    obtain ⟨_,_,h1,h2,_⟩:=ag W hW;injection h1 with _ _ h3
    rw [h3];simpa using h2.1
   have hcut:hJ V (a :: l) k r=hJ V l k1 (iv V r a)++hJ V l k r:=by
    rw [al]
    conv=>lhs;unfold hJ
    rw [if_neg (by omega)]
   rw [hcut];obtain ⟨aq,hv⟩:=hL;have aG:ListAt W gl B v L:=⟨aq,hv⟩;have aH:=aq.lt;have c0:=aq.cell (i:=0) (by simp);simp only [List.getElem_cons_zero] at c0;obtain ⟨la,lc,rfl⟩:=hv.at.shape;have ai:B<=W.heap.size:=by omega
   obtain ⟨tv,aI,az⟩:∃ tv,((2<=ac/\tv=.slice (some ⟨b,o+1,none⟩) (l.length+1 - 1) (ac - 1))\/(ac=1/\tv=.slice (some ⟨b,o,none⟩) 0 0))/\∀ w',Below B W0 w'->gU w' tv l:=by
    by_cases h2:2<=ac
    ·exact ⟨_,.inl ⟨h2,rfl⟩,fun w' hw'=>vK (ag w' hw') h2⟩
    ·have aJ:l=[]:=List.eq_nil_of_length_eq_zero (by omega);subst aJ;exact ⟨_,.inr ⟨by omega,rfl⟩,fun w' _=>⟨some ⟨b,o,none⟩,0,rfl,⟨by simp,fun h=>by cases h⟩,by simp,fun i h=>by simp at h⟩⟩
   have aK:b<W.heap.size:=by
    have:=ay W hW;by_cases h:b<W.heap.size
    ·exact h
    ·simp [World.cell?,Array.getElem?_eq_none (Nat.le_of_not_lt h)] at this
   have aL:(L++hJ V l k1 (iv V r a)).take 4097=(L++hJ V l k1 (iv V r a)).take 4097:=rfl;refine yh gl B V L.length (l.length+1) k k1 b o ac _ _ _ (iM (iv V r a)) (jK (iv V r a)) (jF (iv V r a)) T a fa la fn fc lc tv ((L++hJ V l k1 (iv V r a)).take 4097) _ W aH c0 (fun g hg=>(hv.own_ge hg).2) aA aB aC (by simp at am;omega) aF al aI (fun v1 w' hf=>ay w' (hW.trans (hf.below hv hB ai))) aK (fun W'=>pi hr V _ T ⟨fa,fn,fc,rfl⟩ hV a (by omega) W') (fun W' hk=>?_) (fun v1 W' h1 h2=>?_)
   ·exact ih tv az aw (by simp at am;omega) k1 (iv V r a) _ L W' (hW.trans (hk.mono ai)) (aG.kept hk) hl aD (by omega)
   ·have h3:=ih tv az aw (by simp at am;omega) k r v1 _ W' (hW.trans (h2.below hv hB ai)) h1 (by rw [List.length_take];omega) hr hk;rw [rb,List.append_assoc] at h3;exact h3
def ExpSt (W wx:World) (V:Nat) (fs:Value) (T:Int) (y0 y1 y2:Nat) (kd kk:Int) (us:Value):Prop :=
 gO W wx/\gS wx W.heap.size 41 [.int .i64 V,fs,.int .i64 T]/\gS wx (W.heap.size+1) 99 [.int .i64 y0,.int .u64 y1,.int .u64 y2]/\gS wx (W.heap.size+1+1) 106 [.int .i64 kd,.int .i64 kk,us]
theorem gS.made2 (w:World) (cs:Array Value) (e:TypeId) (o:Obj):gS ((w.alloc (.cells cs e)).alloc o) w.heap.size e cs.toList:=(gS.made w cs e).kept ((gO.refl _).alloc o)
theorem gS.made3 (w:World) (cs:Array Value) (e:TypeId) (o p:Obj):gS (((w.alloc (.cells cs e)).alloc o).alloc p) w.heap.size e cs.toList:=(gS.made w cs e).kept (((gO.refl _).alloc o).alloc p)
theorem An (W w2:World) (V:Nat) (fs:Value) (T:Int) (x0 x1 x2 y0 y1 y2:Nat) (kd kk:Int) (us:Value)
  (h:gO (((W.alloc (.cells #[.int .i64 V,fs,.int .i64 T] 41)).alloc (.cells #[.int .i64 x0,.int .u64 x1,.int .u64 x2] 99)).alloc (.cells #[.int .i64 kd,.int .i64 kk,us] 106)) w2) :
  ExpSt W (((w2.setCell ⟨W.heap.size+1,0,none⟩ (.int .i64 y0)).setCell ⟨W.heap.size+1,1,none⟩ (.int .u64 y1)).setCell ⟨W.heap.size+1,2,none⟩ (.int .u64 y2)) V fs T y0 y1 y2 kd kk us:=by
 have k0:gO W w2:=((((gO.refl W).alloc _).alloc _).alloc _).trans h;have r1:gS w2 W.heap.size 41 [.int .i64 V,fs,.int .i64 T]:=(gS.made3 W #[.int .i64 V,fs,.int .i64 T] _ _ _).kept h
 have r2:gS w2 (W.heap.size+1) 99 [.int .i64 x0,.int .u64 x1,.int .u64 x2]:=by
  have:=(gS.made2 (W.alloc (.cells #[.int .i64 V,fs,.int .i64 T] 41)) #[.int .i64 x0,.int .u64 x1,.int .u64 x2] 99 (.cells #[.int .i64 kd,.int .i64 kk,us] 106)).kept h;simpa using this
 have r3:gS w2 (W.heap.size+1+1) 106 [.int .i64 kd,.int .i64 kk,us]:=by
  have:=(gS.made ((W.alloc (.cells #[.int .i64 V,fs,.int .i64 T] 41)).alloc (.cells #[.int .i64 x0,.int .u64 x1,.int .u64 x2] 99)) #[.int .i64 kd,.int .i64 kk,us] 106).kept h;simpa using this
 refine ⟨((k0.store (by omega) 0 _).store (by omega) 1 _).store (by omega) 2 _,((r1.other (by omega) 0 _).other (by omega) 1 _).other (by omega) 2 _,?_,((r3.other (by omega) 0 _).other (by omega) 1 _).other (by omega) 2 _⟩;have:=((r2.store 0 (.int .i64 y0)).store 1 (.int .u64 y1)).store 2 (.int .u64 y2);simpa using this
theorem Hs {W w2:World} {FB NB:Obj} {x0 x1 x2:Value} {e:TypeId} (h:gO (((W.alloc FB).alloc (.cells #[x0,x1,x2] e)).alloc NB) w2):gS w2 (W.heap.size+1) e [x0,x1,x2]:=by
 have:=(gS.made2 (W.alloc FB) #[x0,x1,x2] e NB).kept h;simpa using this
theorem Ao (gl B V i r b o n c:Nat) (T:Int) (x:Nd) (ua:Option Addr) (un uc:Nat) (v:Value) (L:List Nat) (W:World) (hB:B<=gl) (hV:V<=24) (aQ:B<=W.heap.size) (hL:ListAt W gl B v L) (hl:L.length<=4097) (hr:ie 152 r) (hi:i<128) (bB:i<n)
  (aT:W.rangeAt b (o+i*3) [.int .i64 x.kind,.int .i64 x.k,.slice ua un uc]) (aR:∀ w',Below B W w'->gU w' (.slice ua un uc) x.args) (aj:∀ a∈x.args,0<=a/\a<(V:Int)+128) (bC:x.args.length<=16)
  (hkd:x.kind=0\/x.kind=2\/x.kind=3\/x.kind=4) (aU:x.kind=4->1<=x.k/\x.k<=x.args.length) :
  Calls Tryz.prog 128 #[.pointer (some ⟨gl,0,none⟩),.agg #[.int .i64 V,.slice (some ⟨b,o,none⟩) n c,.int .i64 T],km r,.int .i64 i] W fun e w'=>e=.returned (.tuple #[])/\∃ v',ListAt w' gl B v' ((L++jB V x i r).take 4097)/\lh gl v v' W w':=by
 obtain ⟨kd,kk,args⟩:=x;simp only at aT aR aj bC hkd aU;have bo:ie 152 (iH r (2^(24+i))):=fun j hj=>by rw [lg] at hj;simp at hj;exact hr j hj.1
 have aV:Hid (∀ W',Calls Tryz.prog 184 #[km r,.int .i64 i] W' fun e w'=>e=.returned (km (iH r (2^(24+i))))/\gO W' w'):=af fun W'=>xM hr i hi W'
 have az:Hid (jB V ⟨kd,kk,args⟩ i r=if kd=0 then (if kk=1 then [iH r (2^(24+i))] else []) else if kd=2 then [args.foldl (iv V) (iH r (2^(24+i)))] else if kd=3 then args.map (iv V (iH r (2^(24+i)))) else hJ V args kk.toNat (iH r (2^(24+i)))):=rfl;generalize iH r (2^(24+i))=r1 at *;obtain ⟨ex,hex⟩:∃ ex,ex=jB V ⟨kd,kk,args⟩ i r:=⟨_,rfl⟩;rw [<-hex] at az⊢;have HL:=af hL;have aH:=af bo;have aW:=af aR;have aC:=af aj
 have bp:un=args.length:=by
  obtain ⟨_,_,h,_⟩:=aR W (Below.refl _ _);injection h
 have aS:=af bp;have bq:un<=16:=by omega
 obtain ⟨y0,aX⟩:∃ y,y=iM r1:=⟨_,rfl⟩;obtain ⟨y1,aY⟩:∃ y,y=jK r1:=⟨_,rfl⟩;obtain ⟨y2,aZ⟩:∃ y,y=jF r1:=⟨_,rfl⟩;have HY:Hid (y0=iM r1/\y1=jK r1/\y2=jF r1):=⟨aX,aY,aZ⟩;unfold km at *;rw [<-aX,<-aY,<-aZ] at aV;generalize iM r=x0 at *;generalize jK r=x1 at *;generalize jF r=x2 at *;have bH:(i:Int)<(n:Int):=by omega
 have br:Hid (∀ C1 C2,((W.alloc C1).alloc C2).rangeAt b (o+i*3) [.int .i64 kd,.int .i64 kk,.slice ua un uc]):=af fun C1 C2=>nV aT (((gO.refl W).alloc C1).alloc C2)
 have bI:=hL.1.lt;have bt:=af aU;clear hL hr bo aT bB hi aR aj bp hex aX aY aZ aU;go_enter Tryz.func128,Tryz.ntmps128;go_upto_region 2 with (first | (with_reducible refine wpList_load_mid rfl 106 _ rfl b (o+i*3) rfl _ _ (br.out _ _) Tryz.underlying106 rfl (by kernel_rfl) ?_))
 go_cut [] (fun wx=>Hid (ExpSt W wx V (.slice (some ⟨b,o,none⟩) n c) T y0 y1 y2 kd kk (.slice ua un uc)))
 case first =>
  go_wp2_with fail;refine (aV.out _).mono ?_;rintro e w2 ⟨rfl,ai⟩;have aD:=Hs ai;have d0:=aD.cell (i:=0) (by simp);have d1:=aD.cell (i:=1) (by simp);have d2:=aD.cell (i:=2) (by simp);have f0:=aD.free 0;have f1:=aD.free 1;have f2:=aD.free 2;simp only [List.getElem_cons_succ,List.getElem_cons_zero] at d0 d1 d2;clear aD;have HS:=af (An W w2 V (.slice (some ⟨b,o,none⟩) n c) T x0 x1 x2 y0 y1 y2 kd kk (.slice ua un uc) ai);clear ai;go_wp2;go_meet;exact HS
 case rest =>
  obtain ⟨al,hf,am,ar⟩:=hcut.out;have hsz:W.heap.size+1+1<wc.heap.size:=ar.lt;have e0:=hf.cell (i:=0) (by simp);have e1:=hf.cell (i:=1) (by simp);have e2:=hf.cell (i:=2) (by simp);have d0:=am.cell (i:=0) (by simp);have d1:=am.cell (i:=1) (by simp);have d2:=am.cell (i:=2) (by simp);have m0:=ar.cell (i:=0) (by simp);have m1:=ar.cell (i:=1) (by simp);have m2:=ar.cell (i:=2) (by simp);simp only [List.getElem_cons_succ,List.getElem_cons_zero] at e0 e1 e2 d0 d1 d2 m0 m1 m2;have aA:=af al
  have aI:Hid (∀ z W',ie 152 z->gO wc W'->Calls Tryz.prog 129 #[.pointer (some ⟨gl,0,none⟩),.agg #[.int .i64 (iM z),.int .u64 (jK z),.int .u64 (jF z)]] W' fun e w'=>e=.returned (.tuple #[])/\∃ v',ListAt w' gl B v' ((L++[z]).take 4097)/\lh gl v v' W w'):=af fun z W' hz hk=>by
   have:=qp gl B z v L W' (HL.out.kept (al.trans hk)) hz hl hB;rw [oU hl] at this;exact this.mono fun _ _ ⟨h1,v',h2,h3⟩=>⟨h1,v',h2,(lh.of_kept (al.trans hk)).trans h3⟩
  have a_:=hcut;clear hcut al hf am ar aV br;rcases hkd with hkd | hkd | hkd | hkd
  ·subst hkd;by_cases aF:kk=1
   ·have bd:(kk == 1)=true:=by simpa using aF
    have hex:ex=[r1]:=by rw [az.out,if_pos rfl,if_pos aF]
    have HA:=aI.out r1 wc aH.out (gO.refl _);rw [<-HY.out.1,<-HY.out.2.1,<-HY.out.2.2] at HA;rw [<-hex] at HA;have aG:=af HA;clear aF hex HA;go_wp2_with (go_at_call 129;refine aG.out.mono ?_;rintro e w3 ⟨rfl,v',h3,h4⟩);refine bodyPost_end (results_none rfl _ _ _) rfl ?_;exact ⟨rfl,v',h3,h4⟩
   ·have bd:(kk == 1)=false:=by simpa using aF
    have hex:ex=[]:=by rw [az.out,if_pos rfl,if_neg aF]
    have HF:Hid (ListAt wc gl B v ((L++ex).take 4097)):=af (by rw [hex,List.append_nil,List.take_of_length_le hl];exact HL.out.kept aA.out);clear aF hex aI;go_wp2;refine bodyPost_end (results_none rfl _ _ _) rfl ?_;exact ⟨rfl,v,HF.out,lh.of_kept aA.out⟩
  ·subst hkd;have hex:ex=[args.foldl (iv V) r1]:=by rw [az.out,if_neg (by decide),if_pos rfl]
   have bf:=af hex;clear hex az;go_wp2;clear d0 d1 d2;go_loopg [44] un (fun kx s44 wr=>∃ (k:Nat) (rk:Nat),s44=.int .i64 k/\k<=un/\un - k<=kx/\Hid (rk=(args.take k).foldl (iv V) r1/\ie 152 rk)/\Hid (ExpSt W wr V (.slice (some ⟨b,o,none⟩) n c) T (iM rk) (jK rk) (jF rk) 2 kk (.slice ua un uc)))
   case atStart=>exact ⟨0,r1,rfl,Nat.zero_le _,by omega,af ⟨rfl,aH.out⟩,by rw [<-HY.out.1,<-HY.out.2.1,<-HY.out.2.2];exact a_⟩
   case round =>
    clear e0 e1 e2 m0 m1 m2;obtain ⟨k,rk,rfl,hk,bD,aJ,bw⟩:=hrel;obtain ⟨al,hf,am,ar⟩:=bw.out;have bh:W.heap.size+1+1<wr.heap.size:=ar.lt;have e0:=hf.cell (i:=0) (by simp);have e1:=hf.cell (i:=1) (by simp);have e2:=hf.cell (i:=2) (by simp);have d0:=am.cell (i:=0) (by simp);have d1:=am.cell (i:=1) (by simp);have d2:=am.cell (i:=2) (by simp);simp only [List.getElem_cons_succ,List.getElem_cons_zero] at e0 e1 e2 d0 d1 d2;by_cases bE:k<un
    ·have aK:k<args.length:=by have:=aS.out;omega
     obtain ⟨ba,oa,rfl,bi⟩:∃ ba oa,ua=some ⟨ba,oa,none⟩/\wr.cell? ⟨ba,oa+k,none⟩=some (.int .i64 args[k]):=by
      obtain ⟨a',c',h1,_,_,h4⟩:=aW.out wr (al.mono aQ);injection h1 with h1 h2 h3
      subst h1;exact h4 k aK
     have ha:=aC.out args[k] (List.getElem_mem _);have aB:Hid (∀ W',Calls Tryz.prog 125 #[.agg #[.int .i64 (iM rk),.int .u64 (jK rk),.int .u64 (jF rk)],.agg #[.int .i64 V,.slice (some ⟨b,o,none⟩) n c,.int .i64 T],.int .i64 args[k]] W' fun e w'=>e=.returned (km (iv V rk args[k]))/\gO W' w'):=af fun W'=>pi aJ.out.2 V _ T ⟨_,_,_,rfl⟩ hV args[k] ha W'
     have aL:Hid (iv V rk args[k]=(args.take (k+1)).foldl (iv V) r1/\ie 152 (iv V rk args[k])):=af ⟨by rw [List.take_succ_eq_append_getElem aK,List.foldl_append,<-aJ.out.1];rfl,mB aJ.out.2 (lL (j' (V:=V) (m:=128) (by omega) hV) (by omega))⟩;unfold km at aB;obtain ⟨rk2,ag⟩:∃ x,x=iv V rk args[k]:=⟨_,rfl⟩;rw [<-ag] at aB aL;obtain ⟨ak,aM⟩:∃ x,x=args[k]:=⟨_,rfl⟩;rw [<-aM] at bi aB;have aN:=af (⟨al,hf,am,ar⟩:ExpSt W wr V (.slice (some ⟨b,o,none⟩) n c) T (iM rk) (jK rk) (jF rk) 2 kk (.slice (some ⟨ba,oa,none⟩) un uc));generalize iM rk=z0 at *;generalize jK rk=z1 at *;generalize jF rk=z2 at *;clear al hf am ar ha aM ag bw;go_wp2_with fail;refine (aB.out _).mono ?_;rintro e w2 ⟨rfl,ai⟩;have ah:=aN.out.2.2.1.kept ai;have d0':=ah.cell (i:=0) (by simp);have d1':=ah.cell (i:=1) (by simp);have d2':=ah.cell (i:=2) (by simp);have f0:=ah.free 0;have f1:=ah.free 1;have f2:=ah.free 2;simp only [List.getElem_cons_succ,List.getElem_cons_zero] at d0' d1' d2'
     have bF:Hid (ExpSt W (((w2.setCell ⟨W.heap.size+1,0,none⟩ (.int .i64 (iM rk2))).setCell ⟨W.heap.size+1,1,none⟩ (.int .u64 (jK rk2))).setCell ⟨W.heap.size+1,2,none⟩ (.int .u64 (jF rk2))) V (.slice (some ⟨b,o,none⟩) n c) T (iM rk2) (jK rk2) (jF rk2) 2 kk (.slice (some ⟨ba,oa,none⟩) un uc)):=af (by
      obtain ⟨g1,g2,g3,g4⟩:=aN.out;refine ⟨((((g1.trans ai).store (by omega) 0 _).store (by omega) 1 _).store (by omega) 2 _),(((g2.kept ai).other (by omega) 0 _).other (by omega) 1 _).other (by omega) 2 _,?_,(((g4.kept ai).other (by omega) 0 _).other (by omega) 1 _).other (by omega) 2 _⟩;have:=(((g3.kept ai).store 0 (.int .i64 (iM rk2))).store 1 (.int .u64 (jK rk2))).store 2 (.int .u64 (jF rk2));simpa using this)
     clear ah ai e0 e1 e2 d0 d1 d2;go_wp2;go_roundg (un - (k+1))
     case measure=>omega
     case rel=>exact ⟨k+1,rk2,by go_num,by omega,Nat.le_refl _,aL,bF⟩
    ·have aO:k=un:=by omega
     have bz:rk=args.foldl (iv V) r1:=by rw [aJ.out.1,aO,aS.out,List.take_length]
     have aG:Hid (Calls Tryz.prog 129 #[.pointer (some ⟨gl,0,none⟩),.agg #[.int .i64 (iM rk),.int .u64 (jK rk),.int .u64 (jF rk)]] wr fun e w'=>e=.returned (.tuple #[])/\∃ v',ListAt w' gl B v' ((L++ex).take 4097)/\lh gl v v' W w'):=af (by
      have:=qp gl B rk v L wr (HL.out.kept al) aJ.out.2 hl hB;rw [oU hl] at this;rw [bf.out,<-bz];exact this.mono fun _ _ ⟨h1,v',h2,h3⟩=>⟨h1,v',h2,(lh.of_kept al).trans h3⟩)
     generalize iM rk=z0 at *;generalize jK rk=z1 at *;generalize jF rk=z2 at *;clear aO bz al hf am ar aI;go_wp2_with (go_at_call 129;refine aG.out.mono ?_;rintro e w3 ⟨rfl,v',h3,h4⟩);refine bodyPost_end (results_none rfl _ _ _) rfl ?_;exact ⟨rfl,v',h3,h4⟩
  ·subst hkd;have hex:ex=args.map (iv V r1):=by rw [az.out,if_neg (by decide),if_neg (by decide),if_pos rfl]
   have bf:=af hex;have bj:Hid (∀ g,v.ownBlock=some g->g<W.heap.size):=af fun g hg=>(HL.out.2.own_ge hg).2
   clear hex az aI;go_wp2;go_loopg [61] un (fun kx s61 wr=>∃ (k:Nat) (vk:Value),s61=.int .i64 k/\k<=un/\un - k<=kx/\Hid (ListAt wr gl B vk ((L++(args.take k).map (iv V r1)).take 4097))/\Hid (lh gl v vk wc wr))
   case atStart=>exact ⟨0,v,rfl,Nat.zero_le _,by omega,af (by rw [List.take_zero,List.map_nil,List.append_nil,List.take_of_length_le hl];exact HL.out.kept aA.out),af (lh.of_kept (gO.refl _))⟩
   case round =>
    clear m0 m1 m2;obtain ⟨k,vk,rfl,hk,bD,bk,ap⟩:=hrel;have bh:=ap.out.size;by_cases bE:k<un
    ·have aK:k<args.length:=by have:=aS.out;omega
     have aq:Below B W wr:=(lh.trans (lh.of_kept aA.out) ap.out).below HL.out.2 hB aQ
     obtain ⟨ba,oa,rfl,bi⟩:∃ ba oa,ua=some ⟨ba,oa,none⟩/\wr.cell? ⟨ba,oa+k,none⟩=some (.int .i64 args[k]):=by
      obtain ⟨a',c',h1,_,_,h4⟩:=aW.out wr aq;injection h1 with h1 h2 h3
      subst h1;exact h4 k aK
     have bl:∀ j,j<2->some (W.heap.size+j)≠v.ownBlock:=fun j hj e=>by have:=bj.out _ e.symm;omega
     have aw:some W.heap.size≠v.ownBlock:=bl 0 (by omega);have ay:some (W.heap.size+1)≠v.ownBlock:=bl 1 (by omega);have e0':=ap.out.cell (by omega) (by omega) aw e0;have e1':=ap.out.cell (by omega) (by omega) aw e1;have e2':=ap.out.cell (by omega) (by omega) aw e2;have d0':=ap.out.cell (by omega) (by omega) ay d0;have d1':=ap.out.cell (by omega) (by omega) ay d1;have d2':=ap.out.cell (by omega) (by omega) ay d2;have E0:=af e0;have E1:=af e1;have E2:=af e2;have D0:=af d0;have D1:=af d1;have D2:=af d2;have ha:=aC.out args[k] (List.getElem_mem _);obtain ⟨rk2,ag⟩:∃ x,x=iv V r1 args[k]:=⟨_,rfl⟩
     have aB:Hid (∀ W',Calls Tryz.prog 125 #[.agg #[.int .i64 y0,.int .u64 y1,.int .u64 y2],.agg #[.int .i64 V,.slice (some ⟨b,o,none⟩) n c,.int .i64 T],.int .i64 args[k]] W' fun e w'=>e=.returned (km rk2)/\gO W' w'):=af fun W'=>by
      have:=pi aH.out V (.slice (some ⟨b,o,none⟩) n c) T ⟨_,_,_,rfl⟩ hV args[k] ha W';rw [<-ag] at this;unfold km at this;rw [<-HY.out.1,<-HY.out.2.1,<-HY.out.2.2] at this;exact this
     have bA:ie 152 rk2:=by rw [ag];exact mB aH.out (lL (j' (V:=V) (m:=128) (by omega) hV) (by omega))
     have aG:Hid (∀ W',gO wr W'->Calls Tryz.prog 129 #[.pointer (some ⟨gl,0,none⟩),km rk2] W' fun e w'=>e=.returned (.tuple #[])/\∃ v',Hid (ListAt w' gl B v' ((L++(args.take (k+1)).map (iv V r1)).take 4097))/\Hid (lh gl v v' wc w')):=af fun W' hk=>by
      have aP:((L++(args.take k).map (iv V r1)).take 4097).length<=4097:=by rw [List.length_take];omega
      have:=qp gl B rk2 vk _ W' (bk.out.kept hk) bA aP hB;rw [oU aP,rb,List.append_assoc] at this;rw [List.take_succ_eq_append_getElem aK,List.map_append,List.map_singleton,<-ag];exact this.mono fun _ _ ⟨h1,v',h2,h3⟩=>⟨h1,v',af h2,af ((ap.out.trans (lh.of_kept hk)).trans h3)⟩
     obtain ⟨ak,aM⟩:∃ x,x=args[k]:=⟨_,rfl⟩;rw [<-aM] at bi aB;unfold km at aB aG;generalize iM rk2=z0 at *;generalize jK rk2=z1 at *;generalize jF rk2=z2 at *;clear ha aM ag bA bl aw ay e0 e1 e2 d0 d1 d2 aq bk ap;go_wp2_with fail;refine (aB.out _).mono ?_;rintro e w2 ⟨rfl,ai⟩;go_wp2_with (go_at_call 129;refine (aG.out _ ai).mono ?_;rintro e w3 ⟨rfl,v',h3,h4⟩);go_roundg (un - (k+1))
     case measure=>omega
     case rel=>exact ⟨k+1,v',by go_num,by omega,Nat.le_refl _,h3,h4⟩
    ·have aO:k=un:=by omega
     have HF:Hid (ListAt wr gl B vk ((L++ex).take 4097)):=af (by have h:=bk.out;rw [aO,aS.out,List.take_length,<-bf.out] at h;exact h);clear aO e0 e1 e2 d0 d1 d2;go_wp2;refine bodyPost_end (results_none rfl _ _ _) rfl ?_;exact ⟨rfl,vk,HF.out,(lh.of_kept aA.out).trans ap.out⟩
  ·subst hkd;obtain ⟨K,rfl⟩:=Int.eq_ofNat_of_zero_le (show 0<=kk by have:=bt.out rfl;omega);have bJ:K<=16:=by have:=bt.out rfl;omega
   have hex:ex=hJ V args K r1:=by rw [az.out,if_neg (by decide),if_neg (by decide),if_neg (by decide)];rfl
   have bG:Hid (∀ W',gO wc W'->Calls Tryz.prog 185 #[.pointer (some ⟨gl,0,none⟩),.agg #[.int .i64 V,.slice (some ⟨b,o,none⟩) n c,.int .i64 T],.agg #[.int .i64 y0,.int .u64 y1,.int .u64 y2],.slice ua un uc,.int .i64 K] W' fun e w'=>e=.returned (.tuple #[])/\∃ v',ListAt w' gl B v' ((L++ex).take 4097)/\lh gl v v' W w'):=af fun W' hk=>by
    have h:=Ah gl B V T (.slice (some ⟨b,o,none⟩) n c) W ⟨_,_,_,rfl⟩ hV hB aQ args (.slice ua un uc) aW.out aC.out (by omega) K r1 v L W' ((aA.out.trans hk).mono aQ) (HL.out.kept (aA.out.trans hk)) hl aH.out (by omega);rw [hex,HY.out.1,HY.out.2.1,HY.out.2.2];exact h.mono fun _ _ ⟨h1,v',h2,h3⟩=>⟨h1,v',h2,(lh.of_kept (aA.out.trans hk)).trans h3⟩
   clear hex aI;go_wp2_with (go_at_call 185;refine (bG.out _ (gO.refl _)).mono ?_;rintro e w3 ⟨rfl,v',h3,h4⟩);refine bodyPost_end (results_none rfl _ _ _) rfl ?_;exact ⟨rfl,v',h3,h4⟩
end Go.Proofs.YtofibjflkebkpaaGreatDoor
