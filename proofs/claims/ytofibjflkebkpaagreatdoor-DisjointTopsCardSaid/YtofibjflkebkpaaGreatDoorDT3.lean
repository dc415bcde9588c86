import Derived.WalkKit
import Derived.WalkSpells
import Derived.WalkLawsBesides
import Derived.Deep.QuietTactic
import Derived.BigQuiet
import Derived.Lib.Hide
import Derived.Shelf.Abstract
import Derived.Deep.RegionWith
import Derived.Laws.AppendOwnNone
import Derived.Lib.AppendZerosOnto
import Derived.Lib.SliceRun
import Derived.Lib.SlicesCompact
import Derived.Shelf.SlSortCmp.NoneTotal
import Derived.Maps.OwnOps
import Derived.Maps.OwnSet
import Derived.Maps.Views
import Derived.Deep.MidRow
import Derived.Deep.RegionHeld3
import Derived.Deep.AppendLies
import Derived.Deep.RegionLaw
import Derived.IntWalk
import Derived.StillTailTactics
import Derived.RegionTactic
import Derived.BigRegion
import Derived.ChangeAlike
import Derived.Sort.LotD2
import Derived.Sort.LotA
import Derived.Test.YtofibjflkebkpaaGreatDoorDT2
import Derived.Shelf.SlSortCmp.PdqK
import Derived.Test.YtofibjflkebkpaaGreatDoorProg
import Derived.Deep.DeepCutAuto
import Derived.Test.YtofibjflkebkpaaGreatDoorShelf
import Derived.Lib.ItoaNum
import Derived.Deep.LoopGhost
import Derived.Test.YtofibjflkebkpaaGreatDoorDT1
set_option maxRecDepth 100000
set_option maxHeartbeats 16000000
namespace Go.Proofs.YtofibjflkebkpaaGreatDoor
open Go.RowKit
section
open Go.Shelf Go.RowKit Go.Lib Go.Sort
def aU (c:Nat):List Value:=[.int .i64 (aZ c),.int .u64 (cr c),.int .u64 (b_ c)]
def fV (c:Nat):Nat:=c % 5708990770823839524233143877797980545530986496
theorem kQ (c:Nat):aB 152 (fV c):=oG (Nat.lt_of_lt_of_le (Nat.mod_lt _ (by decide)) (by decide))
theorem n_ {c:Nat} (h:aB 152 c):fV c=c:=Nat.mod_eq_of_lt (Nat.lt_of_lt_of_le (fI h) (by decide))
def bQ (c:Nat):List Value:=aU (fV c)
def iy (a b:Nat):Int:=(pc (fV a):Int) - (pc (fV b):Int)
theorem AO (a b:Nat):ltOf iy a b=decide (pc (fV a)<pc (fV b)):=by
 unfold ltOf iy;rw [decide_eq_decide];omega
theorem Aq:SWO (ltOf iy) where
 irrefl x:=by rw [AO];simp
 trans x y z h1 h2:=by rw [AO] at *;simp at *;omega
 ntrans x y z h1 h2:=by rw [AO] at *;simp at *;omega
theorem fC (w:World) (C:Obj) (n:Nat):(w.alloc C).drewN n=grow (w.drewN n) #[C]:=by
 rw [alloc_eq_grow];rfl
theorem ws (W:World) (X Y:Obj) (n:Nat) (os:Array Obj):grow (((W.alloc X).alloc Y).drewN n) os=grow (W.drewN n) (#[X]++(#[Y]++os)):=by
 rw [alloc_eq_grow,alloc_eq_grow];show grow (grow (grow (W.drewN n) #[X]) #[Y]) os=_;rw [grow_grow,grow_grow]
theorem wA (x y:Nat) (W:World):Calls Tryz.prog 188 #[.agg (bQ x).toArray,.agg (bQ y).toArray] W fun e w'=>e=.returned (.int .i64 (iy x y))/\∃ q os',w'=grow (W.drewN q) os':=by
 have hx:∀ W',Calls Tryz.prog 189 #[.agg (bQ x).toArray] W' fun e w'=>e=.returned (.int .i64 (pc (fV x)))/\∃ q os',w'=grow (W'.drewN q) os':=fun W'=>(nA (kQ x) W').mono fun _ _ ⟨h1,C,n,h2⟩=>⟨h1,n,_,h2.trans (fC W' C n)⟩
 have hy:∀ W',Calls Tryz.prog 189 #[.agg (bQ y).toArray] W' fun e w'=>e=.returned (.int .i64 (pc (fV y)))/\∃ q os',w'=grow (W'.drewN q) os':=fun W'=>(nA (kQ y) W').mono fun _ _ ⟨h1,C,n,h2⟩=>⟨h1,n,_,h2.trans (fC W' C n)⟩
 have bx:=pZ 152 (fV x) (fI (kQ x));have by':=pZ 152 (fV y) (fI (kQ y))
 unfold iy;unfold bQ aU at *;generalize pc (fV x)=px at *;generalize pc (fV y)=py at *;generalize aZ (fV x)=x0 at *;generalize cr (fV x)=x1 at *;generalize b_ (fV x)=x2 at *;generalize aZ (fV y)=y0 at *;generalize cr (fV y)=y1 at *;generalize b_ (fV y)=y2 at *;have w1:IntKind.i64.wrap ((px:Int) - (py:Int))=(px:Int) - (py:Int):=by rw [IntKind.wrap_i64];omega
 have mixed:Tryz.prog.follows .mixedOrders=true:=by kernel_rfl
 have cx:∀ n os,(grow ((((W.alloc (.cells #[.int .i64 x0,.int .u64 x1,.int .u64 x2] 99)).alloc (.cells #[.int .i64 y0,.int .u64 y1,.int .u64 y2] 99))).drewN n) os).cell? ⟨W.heap.size,0,none⟩=some (.int .i64 x0)/\(grow ((((W.alloc (.cells #[.int .i64 x0,.int .u64 x1,.int .u64 x2] 99)).alloc (.cells #[.int .i64 y0,.int .u64 y1,.int .u64 y2] 99))).drewN n) os).cell? ⟨W.heap.size,1,none⟩=some (.int .u64 x1)/\(grow ((((W.alloc (.cells #[.int .i64 x0,.int .u64 x1,.int .u64 x2] 99)).alloc (.cells #[.int .i64 y0,.int .u64 y1,.int .u64 y2] 99))).drewN n) os).cell? ⟨W.heap.size,2,none⟩=some (.int .u64 x2):=fun n os=>by
  refine ⟨?_,?_,?_⟩ <;> (rw [cell?_grow _ _ _ (by simp;omega)];simp)
 have cy:∀ n os,(grow ((((W.alloc (.cells #[.int .i64 x0,.int .u64 x1,.int .u64 x2] 99)).alloc (.cells #[.int .i64 y0,.int .u64 y1,.int .u64 y2] 99))).drewN n) os).cell? ⟨W.heap.size+1,0,none⟩=some (.int .i64 y0)/\(grow ((((W.alloc (.cells #[.int .i64 x0,.int .u64 x1,.int .u64 x2] 99)).alloc (.cells #[.int .i64 y0,.int .u64 y1,.int .u64 y2] 99))).drewN n) os).cell? ⟨W.heap.size+1,1,none⟩=some (.int .u64 y1)/\(grow ((((W.alloc (.cells #[.int .i64 x0,.int .u64 x1,.int .u64 x2] 99)).alloc (.cells #[.int .i64 y0,.int .u64 y1,.int .u64 y2] 99))).drewN n) os).cell? ⟨W.heap.size+1,2,none⟩=some (.int .u64 y2):=fun n os=>by
  refine ⟨?_,?_,?_⟩ <;> (rw [cell?_grow _ _ _ (by simp)];simp)
 have HX:Hid _:=hx;have HY:Hid _:=hy;clear hx hy;show Calls Tryz.prog 188 #[.agg #[.int .i64 x0,.int .u64 x1,.int .u64 x2],.agg #[.int .i64 y0,.int .u64 y1,.int .u64 y2]] W _;go_enter Tryz.func188,Tryz.ntmps188;go_wp2;go_quiet_grown (first | (go_at_call 189;(with_reducible refine Calls.grown_of (HX.out _))) | (go_at_call 189;(with_reducible refine Calls.grown_of (HY.out _))));go_wp2;go_ret;exact ⟨rfl,nq,_,ws _ _ _ _ _⟩
end
section
open Go.Shelf Go.RowKit Go.Lib Go.Sort
structure Au (P:Program) (k:Nat):Prop where
 mixed:P.follows .mixedOrders=true
 g148:P.funcs[272]?=some Tryz.f272
 g147:P.funcs[267]?=some Tryz.f267
 g145:P.funcs[261]?=some Tryz.f261
 t0:P.underlying 0=some (TypeDesc.tuple #[])
 a0:∀ (w:World),Sem.run P (isAgg 0) w=Result.ok false w
 z0:∀ (w:World),Sem.run P (Go.sizeOf 0) w=Result.ok 1 w
 v0:∀ (w:World),Sem.run P (zeroValue 0) w=Result.ok (Value.tuple #[]) w
 t3:P.underlying 3=some (TypeDesc.int IntKind.i64)
 a3:∀ (w:World),Sem.run P (isAgg 3) w=Result.ok false w
 z3:∀ (w:World),Sem.run P (Go.sizeOf 3) w=Result.ok 1 w
 v3:∀ (w:World),Sem.run P (zeroValue 3) w=Result.ok (Value.int IntKind.i64 0) w
 t4:P.underlying 4=some TypeDesc.bool
 a4:∀ (w:World),Sem.run P (isAgg 4) w=Result.ok false w
 z4:∀ (w:World),Sem.run P (Go.sizeOf 4) w=Result.ok 1 w
 v4:∀ (w:World),Sem.run P (zeroValue 4) w=Result.ok (Value.bool false) w
 tu:P.underlying 151=some (TypeDesc.int IntKind.u64)
 au:∀ (w:World),Sem.run P (isAgg 151) w=Result.ok false w
 zu:∀ (w:World),Sem.run P (Go.sizeOf 151) w=Result.ok 1 w
 vu:∀ (w:World),Sem.run P (zeroValue 151) w=Result.ok (Value.int IntKind.u64 0) w
 t22:P.underlying 93=some (TypeDesc.slice 99)
 a22:∀ (w:World),Sem.run P (isAgg 93) w=Result.ok false w
 z22:∀ (w:World),Sem.run P (Go.sizeOf 93) w=Result.ok 1 w
 v22:∀ (w:World),Sem.run P (zeroValue 93) w=Result.ok (Value.slice none 0 0) w
 t25:P.underlying 196=some (TypeDesc.func #[99,99] #[3] false)
 a25:∀ (w:World),Sem.run P (isAgg 196) w=Result.ok false w
 z25:∀ (w:World),Sem.run P (Go.sizeOf 196) w=Result.ok 1 w
 v25:∀ (w:World),Sem.run P (zeroValue 196) w=Result.ok Value.nilFunc w
 aE:∀ (w:World),Sem.run P (isAgg 99) w=Result.ok true w
 zE:∀ (w:World),Sem.run P (Go.sizeOf 99) w=Result.ok k w
theorem Bn:Au Tryz.prog 3 where
 mixed:=by kernel_rfl
 g148:=Tryz.func272
 g147:=Tryz.func267
 g145:=Tryz.func261
 t0:=Tryz.underlying0
 a0:=Tryz.isAgg0
 z0:=Tryz.sizeOf0
 v0:=Tryz.zeroValue0
 t3:=Tryz.underlying3
 a3:=Tryz.isAgg3
 z3:=Tryz.sizeOf3
 v3:=Tryz.zeroValue3
 t4:=Tryz.underlying4
 a4:=Tryz.isAgg4
 z4:=Tryz.sizeOf4
 v4:=Tryz.zeroValue4
 tu:=Tryz.underlying151
 au:=Tryz.isAgg151
 zu:=Tryz.sizeOf151
 vu:=Tryz.zeroValue151
 t22:=Tryz.underlying93
 a22:=Tryz.isAgg93
 z22:=Tryz.sizeOf93
 v22:=Tryz.zeroValue93
 t25:=Tryz.underlying196
 a25:=Tryz.isAgg196
 z25:=Tryz.sizeOf196
 v25:=Tryz.zeroValue196
 aE:=Tryz.isAgg99
 zE:=Tryz.sizeOf99
section
variable {P:Program} {α:Type} [Inhabited α]
theorem qK (k:Nat) (L:Au P k) (enc:α->List Value) (g:Nat) (cb:Array Value) (blk off cap a b n:Nat) (d0 d:Array α) (w0 w:World)
  (R:RowK enc k w0 blk off d0) (hs:d0.size=d.size) (S:SWK enc k w0 blk off d w) (hab:a+n<=b) (hb:b+n<=d.size) (hsz:d.size<4611686018427387904) :
  Calls P 272 #[.slice (some ⟨blk,off,none⟩) d.size cap,.int .i64 a,.int .i64 b,.int .i64 n,.func (.func g) #[] cb] w fun e w'=>e=.returned (.tuple #[])/\∃ dn,vn a b n d dn/\SWK enc k w0 blk off dn w':=by
 have mixed:=L.mixed;have t0:=L.t0;have a0:=L.a0;have z0:=L.z0;have v0:=L.v0;have t3:=L.t3;have a3:=L.a3;have z3:=L.z3;have v3:=L.v3;have t4:=L.t4;have a4:=L.a4;have z4:=L.z4;have v4:=L.v4;have t22:=L.t22;have a22:=L.a22;have z22:=L.z22;have v22:=L.v22;have t25:=L.t25;have a25:=L.a25;have z25:=L.z25;have v25:=L.v25;have aE:=L.aE;have zE:=L.zE;have FG:=L.g148;have S0:Aside (SWK enc k w0 blk off d w):=S;clear S L;go_enter FG,Tryz.ntmps272;go_wp2;go_loopg [10] n (fun kx s10 wr=>∃ (q:Nat) (dk:Array α),s10=.int .i64 q/\q<=n/\n - q<=kx/\dk.size=d.size/\Aside (SWK enc k w0 blk off dk wr)/\Hid (vn a b q d dk))
 case atStart=>exact ⟨0,d,rfl,Nat.zero_le _,by omega,rfl,S0,ae (vn.start a b d)⟩
 case round =>
  clear S0;obtain ⟨q,dk,rfl,hq,hkx,hds,S1,HW⟩:=hrel;by_cases hlt:q<n
  ·have hltz:(q:Int)<(n:Int):=by omega
   go_wp2_with fail;have wa:IntKind.i64.wrap ((a:Int)+(q:Int))=((a+q:Nat):Int):=by rw [IntKind.wrap_i64];omega
   have wa':(a:Int)+(q:Int)=((a+q:Nat):Int):=by omega
   have wb:IntKind.i64.wrap ((b:Int)+(q:Int))=((b+q:Nat):Int):=by rw [IntKind.wrap_i64];omega
   have wb':(b:Int)+(q:Int)=((b+q:Nat):Int):=by omega
   obtain ⟨x,hx⟩:∃ x,x=a+q:=⟨_,rfl⟩;obtain ⟨y,hy⟩:∃ y,y=b+q:=⟨_,rfl⟩;have HXY:Hid (x=a+q/\y=b+q):=⟨hx,hy⟩;rw [<-hx] at wa wa';rw [<-hy] at wb wb';have hxs:x<d.size:=by omega
   have hys:y<d.size:=by omega
   clear hx hy;have ea44:((x:Int)).toNat=x:=by omega
   have pa44:(0:Int)<=(x:Int):=by omega
   have ba44:(x:Int)<(d.size:Int):=by omega
   have ec44:((y:Int)).toNat=y:=by omega
   have pc44:(0:Int)<=(y:Int):=by omega
   have bc44:(y:Int)<(d.size:Int):=by omega
   have S2:Aside (SWK enc k w0 blk off (swp dk x y) ((wr.drew.setCells blk (off+x*k) (enc dk[y]!)).setCells blk (off+y*k) (enc dk[x]!))):=S1.out.swapped R x y (by omega) (by omega);have l44a:=S1.out.ld1 R (by omega) P x (by omega);have l44b:=S1.out.ld1 R (by omega) P y (by omega);have s44a:=S1.out.st1 R (by omega) P x (by omega) dk[y]!;have s44b:=S1.out.st2 R (by omega) P x y (by omega) (by omega) dk[y]! dk[x]!;have n44a:(enc dk[x]!).length=k:=R.hk _;have n44b:(enc dk[y]!).length=k:=R.hk _;generalize enc dk[x]! = cI44 at S2 l44a s44b n44a;generalize enc dk[y]! = cJ44 at S2 l44b s44a s44b n44b;clear S1;go_big_region_o;clear l44a l44b s44a s44b;generalize (wr.drew.setCells blk (off+x*k) cJ44).setCells blk (off+y*k) cI44=w2 at S2⊢;go_wp2;go_roundg (n - (q+1))
   case measure=>omega
   case rel=>exact ⟨q+1,swp dk x y,by go_num,by omega,Nat.le_refl _,by rw [Go.Sort.size_swp];exact hds,S2,by rw [HXY.out.1,HXY.out.2];exact ae (HW.out.step (by omega) (by omega))⟩
  ·have hltz:¬ (q:Int)<(n:Int):=by omega
   have hke:q=n:=by omega
   subst hke;go_wp2;go_end0;exact ⟨rfl,dk,HW.out,S1.out⟩
theorem xG (k:Nat) (L:Au P k) (enc:α->List Value) (g:Nat) (cb:Array Value) (blk off cap a m b:Nat) (d0 d:Array α) (w0 w:World)
  (R:RowK enc k w0 blk off d0) (hs:d0.size=d.size) (S:SWK enc k w0 blk off d w) (ham:a<m) (hmb:m<b) (hb:b<=d.size) (hsz:d.size<4611686018427387904) :
  Calls P 267 #[.slice (some ⟨blk,off,none⟩) d.size cap,.int .i64 a,.int .i64 m,.int .i64 b,.func (.func g) #[] cb] w fun e w'=>e=.returned (.tuple #[])/\∃ dn,jD a m b d dn/\SWK enc k w0 blk off dn w':=by
 have t0:=L.t0;have a0:=L.a0;have z0:=L.z0;have v0:=L.v0;have t3:=L.t3;have a3:=L.a3;have z3:=L.z3;have v3:=L.v3;have t4:=L.t4;have a4:=L.a4;have z4:=L.z4;have v4:=L.v4;have t22:=L.t22;have a22:=L.a22;have z22:=L.z22;have v22:=L.v22;have t25:=L.t25;have a25:=L.a25;have z25:=L.z25;have v25:=L.v25;have FG:=L.g147;have e148:∀ args w,(callFunc 272 args).run P w=.ok (.enter 272 args) w:=enters_of L.g148 (by kernel_rfl) rfl
 have HSW:Hid (∀ (a b n:Nat) (dk:Array α) (wr:World),d0.size=dk.size->SWK enc k w0 blk off dk wr->a+n<=b->b+n<=dk.size->dk.size<4611686018427387904 ->
  Calls P 272 #[.slice (some ⟨blk,off,none⟩) dk.size cap,.int .i64 a,.int .i64 b,.int .i64 n,.func (.func g) #[] cb] wr fun e w'=>e=.returned (.tuple #[])/\∃ dn,vn a b n dk dn/\SWK enc k w0 blk off dn w') :=
  ae fun a b n dk wr h1 h2 h3 h4 h5=>qK k L enc g cb blk off cap a b n d0 dk w0 wr R h1 h2 h3 h4 h5
 have S0:Aside (SWK enc k w0 blk off d w):=S;clear S L;have wi:IntKind.i64.wrap ((m:Int) - (a:Int))=((m - a:Nat):Int):=by rw [IntKind.wrap_i64];omega
 have wi':(m:Int) - (a:Int)=((m - a:Nat):Int):=by omega
 have wj:IntKind.i64.wrap ((b:Int) - (m:Int))=((b - m:Nat):Int):=by rw [IntKind.wrap_i64];omega
 have wj':(b:Int) - (m:Int)=((b - m:Nat):Int):=by omega
 go_enter FG,Tryz.ntmps267;go_wp2;clear wi wi' wj wj';go_loopg [10,11] (b - a) (fun kx s10 s11 wr=>∃ (i j:Nat) (dk:Array α),s10=.int .i64 i/\s11=.int .i64 j/\0<i/\0<j/\i+j<=kx/\dk.size=d.size/\Aside (SWK enc k w0 blk off dk wr)/\Hid (gf a m b d i j dk))
 case atStart=>exact ⟨m - a,b - m,d,rfl,rfl,by omega,by omega,by omega,rfl,S0,ae (gf.start d (by omega) (by omega))⟩
 case round =>
  clear S0;obtain ⟨i,j,dk,rfl,rfl,hi,hj,hkx,hds,S1,HW⟩:=hrel;have hb3:=HW.out.2.2.1;have hb4:=HW.out.2.2.2.1;have hb5:=HW.out.2.2.2.2;rcases Nat.lt_trichotomy i j with hlt | heq | hgt
  ·have q1:((i:Int) == (j:Int))=false:=by simp;omega
   have q2:¬ (j:Int)<(i:Int):=by omega
   have q3:((i:Int) != (j:Int))=true:=by simp;omega
   obtain ⟨p1,hp1⟩:∃ x,x=m - i:=⟨_,rfl⟩;obtain ⟨p2,hp2⟩:∃ x,x=m+j:=⟨_,rfl⟩;obtain ⟨p3,hp3⟩:∃ x,x=m+j - i:=⟨_,rfl⟩;obtain ⟨p4,hp4⟩:∃ x,x=j - i:=⟨_,rfl⟩;have u1:IntKind.i64.wrap ((m:Int) - (i:Int))=(p1:Int):=by rw [IntKind.wrap_i64];omega
   have u1':(m:Int) - (i:Int)=(p1:Int):=by omega
   have u2':(m:Int)+(j:Int)=(p2:Int):=by omega
   have u3':(p2:Int) - (i:Int)=(p3:Int):=by omega
   have u4:IntKind.i64.wrap ((j:Int) - (i:Int))=(p4:Int):=by rw [IntKind.wrap_i64];omega
   have u4':(j:Int) - (i:Int)=(p4:Int):=by omega
   have hc:=HSW.out (m - i) (m+j - i) i dk wr (by omega) S1.out (by omega) (by omega) (by omega);have HN:=ae (fun dn h=>HW.out.left hb hlt (dn:=dn) h);rw [hds,<-hp1,<-hp3] at hc;rw [<-hp1,<-hp3,<-hp4] at HN;have HC:=ae hc;have hp4':0<p4:=by omega
   have hpm:p4<j:=by omega
   have b2:(p2:Int)<4611686018427387904:=by omega
   have b3:(p3:Int)<4611686018427387904:=by omega
   clear hb3 hb4 hb5 hc hp1 hp2 hp3 hp4 S1 hds HW;go_wp2_with (go_at_fn 272;refine HC.out.mono ?_;rintro e w2 ⟨rfl,dn,hsw,hsk⟩);have HR:=ae (HN.out dn hsw);have hdn:=HR.out.1.1;have S2:Aside (SWK enc k w0 blk off dn w2):=hsk;clear hsw hsk HC HN u1 u1' u2' u3';go_wp2;clear u4 u4';go_roundg (i+p4)
   case measure=>omega
   case rel=>exact ⟨i,p4,dn,rfl,rfl,hi,hp4',Nat.le_refl _,hdn,S2,HR⟩
  ·subst heq;have q1:((i:Int) == (i:Int))=true:=by simp
   have q3:((i:Int) != (i:Int))=false:=by simp
   obtain ⟨p1,hp1⟩:∃ x,x=m - i:=⟨_,rfl⟩;have u1:IntKind.i64.wrap ((m:Int) - (i:Int))=(p1:Int):=by rw [IntKind.wrap_i64];omega
   have u1':(m:Int) - (i:Int)=(p1:Int):=by omega
   have hc:=HSW.out (m - i) m i dk wr (by omega) S1.out (by omega) (by omega) (by omega);have HN:=ae (fun dn h=>HW.out.done hb (dn:=dn) h);rw [hds,<-hp1] at hc;rw [<-hp1] at HN;have HC:=ae hc;clear hb3 hb4 hb5 hc hp1 S1 hds HW;go_wp2_with (go_at_fn 272;refine HC.out.mono ?_;rintro e w2 ⟨rfl,dn,hsw,hsk⟩);go_end0;exact ⟨rfl,dn,HN.out dn hsw,hsk⟩
  ·have q1:((i:Int) == (j:Int))=false:=by simp;omega
   have q2:(j:Int)<(i:Int):=by omega
   have q3:((i:Int) != (j:Int))=true:=by simp;omega
   obtain ⟨p1,hp1⟩:∃ x,x=m - i:=⟨_,rfl⟩;obtain ⟨p4,hp4⟩:∃ x,x=i - j:=⟨_,rfl⟩;have u1:IntKind.i64.wrap ((m:Int) - (i:Int))=(p1:Int):=by rw [IntKind.wrap_i64];omega
   have u1':(m:Int) - (i:Int)=(p1:Int):=by omega
   have u4:IntKind.i64.wrap ((i:Int) - (j:Int))=(p4:Int):=by rw [IntKind.wrap_i64];omega
   have u4':(i:Int) - (j:Int)=(p4:Int):=by omega
   have hc:=HSW.out (m - i) m j dk wr (by omega) S1.out (by omega) (by omega) (by omega);have HN:=ae (fun dn h=>HW.out.right hb hgt (dn:=dn) h);rw [hds,<-hp1] at hc;rw [<-hp1,<-hp4] at HN;have HC:=ae hc;have hp4':0<p4:=by omega
   have hpm:p4<i:=by omega
   clear hb3 hb4 hb5 hc hp1 hp4 S1 hds HW;go_wp2_with (go_at_fn 272;refine HC.out.mono ?_;rintro e w2 ⟨rfl,dn,hsw,hsk⟩);have HR:=ae (HN.out dn hsw);have hdn:=HR.out.1.1;have S2:Aside (SWK enc k w0 blk off dn w2):=hsk;clear hsw hsk HC HN u1 u1' u4 u4';go_wp2;go_roundg (p4+j)
   case measure=>omega
   case rel=>exact ⟨p4,j,dn,rfl,rfl,hp4',hj,Nat.le_refl _,hdn,S2,HR⟩
end
end
section
open Go.Shelf Go.RowKit Go.Lib Go.Sort
section
variable {P:Program} {α:Type} [Inhabited α]
theorem vf (k:Nat) (L:Au P k) (enc:α->List Value) (cf:α->α->Int) (hO:SWO (ltOf cf)) (g:Nat) (cb:Array Value) (eg:∀ args w,(callFunc g args).run P w=.ok (.enter g args) w) (blk off cap a m b:Nat) (d0 d:Array α) (w0 w:World)
  (hcmp:CmpLays P g cb enc k cf blk off d0.size w0) (R:RowK enc k w0 blk off d0) (hs:d0.size=d.size) (S:SWK enc k w0 blk off d w) (ham:a+1=m) (hmb:m<b) (hb:b<=d.size) (hsz:d.size<1152921504606846976) (hr:SortedIn (ltOf cf) m b d) :
  Calls P 261 #[.slice (some ⟨blk,off,none⟩) d.size cap,.int .i64 a,.int .i64 m,.int .i64 b,.func (.func g) #[] cb] w fun e w'=>e=.returned (.tuple #[])/\∃ dn,kq (ltOf cf) a b d dn/\SWK enc k w0 blk off dn w':=by
 have mixed:=L.mixed;have t0:=L.t0;have a0:=L.a0;have z0:=L.z0;have v0:=L.v0;have t3:=L.t3;have a3:=L.a3;have z3:=L.z3;have v3:=L.v3;have t4:=L.t4;have a4:=L.a4;have z4:=L.z4;have v4:=L.v4;have tu:=L.tu;have au:=L.au;have zu:=L.zu;have vu:=L.vu;have t22:=L.t22;have a22:=L.a22;have z22:=L.z22;have v22:=L.v22;have t25:=L.t25;have a25:=L.a25;have z25:=L.z25;have v25:=L.v25;have aE:=L.aE;have zE:=L.zE;have FG:=L.g145;have HC:Aside _:=hcmp;have S0:Aside (SWK enc k w0 blk off d w):=S;have HR:Hid (SortedIn (ltOf cf) m b d):=hr;have HO:Hid (SWO (ltOf cf)):=ae hO;have q1:(m:Int) - (a:Int)=1:=by omega
 clear S L hcmp hr hO;go_enter FG,Tryz.ntmps261;go_wp2;clear q1;go_loopg [10,11] (b - m) (fun kx s10 s11 wr=>∃ (i j:Nat),s10=.int .i64 i/\s11=.int .i64 j/\m<=i/\i<=j/\j<=b/\j - i<=kx/\Aside (SWK enc k w0 blk off d wr)/\Hid ((∀ x,m<=x->x<i->ltOf cf d[x]! d[a]! = true)/\(∀ x,j<=x->x<b->ltOf cf d[x]! d[a]! = false)))
 case atStart=>exact ⟨m,b,rfl,rfl,by omega,by omega,by omega,by omega,S0,ae ⟨fun x _ _=>by omega,fun x _ _=>by omega⟩⟩
 case round =>
  clear S0;obtain ⟨i,j,rfl,rfl,hmi,hij,hjb,hkx,S1,HX⟩:=hrel;by_cases hlt:i<j
  ·have hltz:(i:Int)<(j:Int):=by omega
   obtain ⟨h,hh⟩:∃ h,h=(i+j) / 2:=⟨_,rfl⟩;have hb1:(i:Int)+(j:Int)<4611686018427387904:=by omega
   have hb0:0<=(i:Int)+(j:Int):=by omega
   have hhe:((i:Int)+(j:Int)) / 2=(h:Int):=by omega
   have hih:i<=h:=by omega
   have hhj:h<j:=by omega
   clear hh;have hxs:h<d.size:=by omega
   have hys:a<d.size:=by omega
   cases hlv:ltOf cf d[h]! d[a]! with
   | true =>
    have HN:Hid (∀ x,m<=x->x<h+1->ltOf cf d[x]! d[a]! = true):=ae fun x h1 h2=>by
     by_cases e:x=h
     ·subst e;exact hlv
     ·have h3:ltOf cf d[h]! d[x]! = false:=HR.out x h h1 (by omega) (by omega);cases h4:ltOf cf d[x]! d[a]! with
      | true=>rfl
      | false=>exact absurd (HO.out.ntrans _ _ _ h3 h4) (by rw [hlv];simp)
    have ea:((h:Nat):Int).toNat=h:=by omega
    have pa:(0:Int)<=(h:Int):=by omega
    have ba:(h:Int)<(d.size:Int):=by omega
    have ec:((a:Nat):Int).toNat=a:=by omega
    have pc:(0:Int)<=(a:Int):=by omega
    have bc:(a:Int)<(d.size:Int):=by omega
    obtain ⟨vx,hvx⟩:∃ z,z=d[h]!:=⟨_,rfl⟩;obtain ⟨vy,hvy⟩:∃ z,z=d[a]!:=⟨_,rfl⟩;have la:=S1.out.ld R (by omega) P h (by omega);have lb:=S1.out.ld R (by omega) P a (by omega);rw [<-hvx] at la;rw [<-hvy] at lb;have hcm:=S1.out.cmp HC.out (by omega) vx vy;have hv:cf vx vy<0:=by rw [hvx,hvy];exact of_decide_eq_true hlv
    have hd:decide (cf vx vy<0)=true:=decide_eq_true hv;clear hvx hvy;go_wp2_with fail;go_quiet_grown (first | (go_at_fn g;refine Calls.grown_of (hcm _ _)));have S2:Aside (SWK enc k w0 blk off d (grow (wr.drewN nq) osq)):=S1.out.grown nq osq;clear la lb hcm S1;generalize grow (wr.drewN nq) osq=w2 at S2⊢;clear nq osq;go_wp2;go_roundg (j - (h+1))
    case measure=>omega
    case rel=>exact ⟨h+1,j,by go_num,rfl,by omega,by omega,hjb,Nat.le_refl _,S2,ae ⟨HN.out,HX.out.2⟩⟩
   | false =>
    have HN:Hid (∀ x,h<=x->x<b->ltOf cf d[x]! d[a]! = false):=ae fun x h1 h2=>by
     by_cases e:x=h
     ·subst e;exact hlv
     ·have h3:ltOf cf d[x]! d[h]! = false:=HR.out h x (by omega) (by omega) h2;exact HO.out.ntrans _ _ _ h3 hlv
    have ea:((h:Nat):Int).toNat=h:=by omega
    have pa:(0:Int)<=(h:Int):=by omega
    have ba:(h:Int)<(d.size:Int):=by omega
    have ec:((a:Nat):Int).toNat=a:=by omega
    have pc:(0:Int)<=(a:Int):=by omega
    have bc:(a:Int)<(d.size:Int):=by omega
    obtain ⟨vx,hvx⟩:∃ z,z=d[h]!:=⟨_,rfl⟩;obtain ⟨vy,hvy⟩:∃ z,z=d[a]!:=⟨_,rfl⟩;have la:=S1.out.ld R (by omega) P h (by omega);have lb:=S1.out.ld R (by omega) P a (by omega);rw [<-hvx] at la;rw [<-hvy] at lb;have hcm:=S1.out.cmp HC.out (by omega) vx vy;have hv:¬ cf vx vy<0:=by rw [hvx,hvy];exact of_decide_eq_false hlv
    have hd:decide (cf vx vy<0)=false:=decide_eq_false hv;clear hvx hvy;go_wp2_with fail;go_quiet_grown (first | (go_at_fn g;refine Calls.grown_of (hcm _ _)));have S2:Aside (SWK enc k w0 blk off d (grow (wr.drewN nq) osq)):=S1.out.grown nq osq;clear la lb hcm S1;generalize grow (wr.drewN nq) osq=w2 at S2⊢;clear nq osq;go_wp2;go_roundg (h - i)
    case measure=>omega
    case rel=>exact ⟨i,h,rfl,rfl,hmi,by omega,by omega,Nat.le_refl _,S2,ae ⟨HX.out.1,HN.out⟩⟩
  ·have hltz:¬ (i:Int)<(j:Int):=by omega
   have hje:j=i:=by omega
   subst hje;go_wp2;go_loopg [13] (j - a) (fun kx s13 wr=>∃ (q:Nat) (dk:Array α),s13=.int .i64 q/\a<=q/\q<j/\j - q<=kx/\dk.size=d.size/\Aside (SWK enc k w0 blk off dk wr)/\Hid (jD a (a+1) (q+1) d dk))
   case atStart=>exact ⟨a,d,rfl,by omega,by omega,by omega,rfl,S1,ae (jD.one a d)⟩
   case round =>
    clear S1;obtain ⟨q,dk,rfl,haq,hqj,hkq,hds,S1,HW⟩:=hrel;have hj1:1<=(j:Int):=by omega
    by_cases hqs:q+1<j
    ·have hqz:(q:Int)<(j:Int) - 1:=by omega
     have hqz':(q:Int)+1<(j:Int):=by omega
     go_wp2_with fail;obtain ⟨y,hy⟩:∃ y,y=q+1:=⟨_,rfl⟩;have HY:=ae hy;have wy:(q:Int)+1=(y:Int):=by omega
     have hxs:q<d.size:=by omega
     have hys:y<d.size:=by omega
     have ea:((q:Int)).toNat=q:=by omega
     have pa:(0:Int)<=(q:Int):=by omega
     have ba:(q:Int)<(d.size:Int):=by omega
     have ec:((y:Int)).toNat=y:=by omega
     have pc:(0:Int)<=(y:Int):=by omega
     have bc:(y:Int)<(d.size:Int):=by omega
     have wy2:IntKind.i64.wrap ((q:Int)+1)=(y:Int):=by rw [IntKind.wrap_i64];omega
     have S2:Aside (SWK enc k w0 blk off (swp dk q y) ((wr.drew.setCells blk (off+q*k) (enc dk[y]!)).setCells blk (off+y*k) (enc dk[q]!))):=S1.out.swapped R q y (by omega) (by omega);have l44a:=S1.out.ld1 R (by omega) P q (by omega);have l44b:=S1.out.ld1 R (by omega) P y (by omega);have s44a:=S1.out.st1 R (by omega) P q (by omega) dk[y]!;have s44b:=S1.out.st2 R (by omega) P q y (by omega) (by omega) dk[y]! dk[q]!;have n44a:(enc dk[q]!).length=k:=R.hk _;have n44b:(enc dk[y]!).length=k:=R.hk _;generalize enc dk[q]! = cI44 at S2 l44a s44b n44a;generalize enc dk[y]! = cJ44 at S2 l44b s44a s44b n44b;clear S1 hy;go_big_region_o;clear l44a l44b s44a s44b;generalize (wr.drew.setCells blk (off+q*k) cJ44).setCells blk (off+y*k) cI44=w2 at S2⊢;clear wy wy2;go_wp2;go_roundg (j - (q+1))
     case measure=>omega
     case rel=>exact ⟨q+1,swp dk q y,by go_num,by omega,by omega,Nat.le_refl _,by rw [Go.Sort.size_swp];exact hds,S2,by rw [HY.out];exact ae (HW.out.up haq (by omega))⟩
    ·have hqz:¬ (q:Int)<(j:Int) - 1:=by omega
     have hqz':¬ (q:Int)+1<(j:Int):=by omega
     have hqe:q+1=j:=by omega
     have hm:kq (ltOf cf) a b d dk:=wO HO.out (i:=q+1) HW.out (by omega) (by omega) hb (by rw [ham];exact HR.out) (fun x h1 h2=>HX.out.1 x (by omega) (by omega)) (fun x h1 h2=>HX.out.2 x (by omega) h2);have HM:=ae hm;clear hm;go_wp2
     (try simp only [Exit.inBlock,Exit.then]);refine bodyPost_ret (results_none rfl _ _ _) rfl ?_
     exact ⟨rfl,dk,HM.out,S1.out⟩
end
end
section
open Go.Shelf Go.RowKit Go.Lib Go.Sort
section
variable {P:Program} {α:Type} [Inhabited α]
theorem sE (k:Nat) (L:Au P k) (enc:α->List Value) (cf:α->α->Int) (hO:SWO (ltOf cf)) (g:Nat) (cb:Array Value) (eg:∀ args w,(callFunc g args).run P w=.ok (.enter g args) w) (blk off cap a m b:Nat) (d0 d:Array α) (w0 w:World)
  (hcmp:CmpLays P g cb enc k cf blk off d0.size w0) (R:RowK enc k w0 blk off d0) (hs:d0.size=d.size) (S:SWK enc k w0 blk off d w) (ham:a<m) (hne:a+1≠m) (hmb:m+1=b) (hb:b<=d.size) (hsz:d.size<1152921504606846976) (hl:SortedIn (ltOf cf) a m d) :
  Calls P 261 #[.slice (some ⟨blk,off,none⟩) d.size cap,.int .i64 a,.int .i64 m,.int .i64 b,.func (.func g) #[] cb] w fun e w'=>e=.returned (.tuple #[])/\∃ dn,kq (ltOf cf) a b d dn/\SWK enc k w0 blk off dn w':=by
 have mixed:=L.mixed;have t0:=L.t0;have a0:=L.a0;have z0:=L.z0;have v0:=L.v0;have t3:=L.t3;have a3:=L.a3;have z3:=L.z3;have v3:=L.v3;have t4:=L.t4;have a4:=L.a4;have z4:=L.z4;have v4:=L.v4;have tu:=L.tu;have au:=L.au;have zu:=L.zu;have vu:=L.vu;have t22:=L.t22;have a22:=L.a22;have z22:=L.z22;have v22:=L.v22;have t25:=L.t25;have a25:=L.a25;have z25:=L.z25;have v25:=L.v25;have aE:=L.aE;have zE:=L.zE;have FG:=L.g145;have HC:Aside _:=hcmp;have S0:Aside (SWK enc k w0 blk off d w):=S;have HL:Hid (SortedIn (ltOf cf) a m d):=hl;have HO:Hid (SWO (ltOf cf)):=ae hO;obtain ⟨ma,hma⟩:∃ x,x=m - a:=⟨_,rfl⟩;have q1:(m:Int) - (a:Int)=(ma:Int):=by omega
 have q1':((ma:Int) == 1)=false:=by simp;omega
 have q2:(b:Int) - (m:Int)=1:=by omega
 have hmas:(ma:Int)<1152921504606846976:=by omega
 clear S L hcmp hl hO hma;go_enter FG,Tryz.ntmps261;go_wp2;clear q1 q1' q2;go_loopg [14,15] (m - a) (fun kx s10 s11 wr=>∃ (i j:Nat),s10=.int .i64 i/\s11=.int .i64 j/\a<=i/\i<=j/\j<=m/\j - i<=kx/\Aside (SWK enc k w0 blk off d wr)/\Hid ((∀ x,a<=x->x<i->ltOf cf d[m]! d[x]! = false)/\(∀ x,j<=x->x<m->ltOf cf d[m]! d[x]! = true)))
 case atStart=>exact ⟨a,m,rfl,rfl,by omega,by omega,by omega,by omega,S0,ae ⟨fun x _ _=>by omega,fun x _ _=>by omega⟩⟩
 case round =>
  clear S0;obtain ⟨i,j,rfl,rfl,hmi,hij,hjb,hkx,S1,HX⟩:=hrel;by_cases hlt:i<j
  ·have hltz:(i:Int)<(j:Int):=by omega
   obtain ⟨h,hh⟩:∃ h,h=(i+j) / 2:=⟨_,rfl⟩;have hb1:(i:Int)+(j:Int)<4611686018427387904:=by omega
   have hb0:0<=(i:Int)+(j:Int):=by omega
   have hhe:((i:Int)+(j:Int)) / 2=(h:Int):=by omega
   have hih:i<=h:=by omega
   have hhj:h<j:=by omega
   clear hh;have hxs:m<d.size:=by omega
   have hys:h<d.size:=by omega
   cases hlv:ltOf cf d[m]! d[h]! with
   | true =>
    have HN:Hid (∀ x,h<=x->x<m->ltOf cf d[m]! d[x]! = true):=ae fun x h1 h2=>by
     by_cases e:x=h
     ·subst e;exact hlv
     ·have h3:ltOf cf d[x]! d[h]! = false:=HL.out h x (by omega) (by omega) h2;cases h4:ltOf cf d[m]! d[x]! with
      | true=>rfl
      | false=>exact absurd (HO.out.ntrans _ _ _ h4 h3) (by rw [hlv];simp)
    have ea:((m:Nat):Int).toNat=m:=by omega
    have pa:(0:Int)<=(m:Int):=by omega
    have ba:(m:Int)<(d.size:Int):=by omega
    have ec:((h:Nat):Int).toNat=h:=by omega
    have pc:(0:Int)<=(h:Int):=by omega
    have bc:(h:Int)<(d.size:Int):=by omega
    obtain ⟨vx,hvx⟩:∃ z,z=d[m]!:=⟨_,rfl⟩;obtain ⟨vy,hvy⟩:∃ z,z=d[h]!:=⟨_,rfl⟩;have la:=S1.out.ld R (by omega) P m (by omega);have lb:=S1.out.ld R (by omega) P h (by omega);rw [<-hvx] at la;rw [<-hvy] at lb;have hcm:=S1.out.cmp HC.out (by omega) vx vy;have hv:cf vx vy<0:=by rw [hvx,hvy];exact of_decide_eq_true hlv
    have hd:decide (cf vx vy<0)=true:=decide_eq_true hv;clear hvx hvy;go_wp2_with fail;go_quiet_grown (first | (go_at_fn g;refine Calls.grown_of (hcm _ _)));have S2:Aside (SWK enc k w0 blk off d (grow (wr.drewN nq) osq)):=S1.out.grown nq osq;clear la lb hcm S1;generalize grow (wr.drewN nq) osq=w2 at S2⊢;clear nq osq;go_wp2;go_roundg (h - i)
    case measure=>omega
    case rel=>exact ⟨i,h,rfl,rfl,hmi,by omega,by omega,Nat.le_refl _,S2,ae ⟨HX.out.1,HN.out⟩⟩
   | false =>
    have HN:Hid (∀ x,a<=x->x<h+1->ltOf cf d[m]! d[x]! = false):=ae fun x h1 h2=>by
     by_cases e:x=h
     ·subst e;exact hlv
     ·have h3:ltOf cf d[h]! d[x]! = false:=HL.out x h h1 (by omega) (by omega);exact HO.out.ntrans _ _ _ hlv h3
    have ea:((m:Nat):Int).toNat=m:=by omega
    have pa:(0:Int)<=(m:Int):=by omega
    have ba:(m:Int)<(d.size:Int):=by omega
    have ec:((h:Nat):Int).toNat=h:=by omega
    have pc:(0:Int)<=(h:Int):=by omega
    have bc:(h:Int)<(d.size:Int):=by omega
    obtain ⟨vx,hvx⟩:∃ z,z=d[m]!:=⟨_,rfl⟩;obtain ⟨vy,hvy⟩:∃ z,z=d[h]!:=⟨_,rfl⟩;have la:=S1.out.ld R (by omega) P m (by omega);have lb:=S1.out.ld R (by omega) P h (by omega);rw [<-hvx] at la;rw [<-hvy] at lb;have hcm:=S1.out.cmp HC.out (by omega) vx vy;have hv:¬ cf vx vy<0:=by rw [hvx,hvy];exact of_decide_eq_false hlv
    have hd:decide (cf vx vy<0)=false:=decide_eq_false hv;clear hvx hvy;go_wp2_with fail;go_quiet_grown (first | (go_at_fn g;refine Calls.grown_of (hcm _ _)));have S2:Aside (SWK enc k w0 blk off d (grow (wr.drewN nq) osq)):=S1.out.grown nq osq;clear la lb hcm S1;generalize grow (wr.drewN nq) osq=w2 at S2⊢;clear nq osq;go_wp2;go_roundg (j - (h+1))
    case measure=>omega
    case rel=>exact ⟨h+1,j,by go_num,rfl,by omega,by omega,hjb,Nat.le_refl _,S2,ae ⟨HN.out,HX.out.2⟩⟩
  ·have hltz:¬ (i:Int)<(j:Int):=by omega
   have hje:j=i:=by omega
   subst hje;go_wp2;go_loopg [17] (m - j) (fun kx s13 wr=>∃ (q:Nat) (dk:Array α),s13=.int .i64 q/\j<=q/\q<=m/\q - j<=kx/\dk.size=d.size/\Aside (SWK enc k w0 blk off dk wr)/\Hid (jD q m (m+1) d dk))
   case atStart=>exact ⟨m,d,rfl,by omega,by omega,by omega,rfl,S1,ae (jD.none m (m+1) d)⟩
   case round =>
    clear S1;obtain ⟨q,dk,rfl,haq,hqj,hkq,hds,S1,HW⟩:=hrel;by_cases hqs:j<q
    ·have hqz:(j:Int)<(q:Int):=by omega
     obtain ⟨y,hy⟩:∃ y,y=q - 1:=⟨_,rfl⟩;go_wp2_with fail;have HY:Hid (q=y+1):=ae (by omega);have wy:(q:Int) - 1=(y:Int):=by omega
     have hxs:q<d.size:=by omega
     have hys:y<d.size:=by omega
     have hyj:j<=y:=by omega
     have hyq:y<q:=by omega
     have ea:((q:Int)).toNat=q:=by omega
     have pa:(0:Int)<=(q:Int):=by omega
     have ba:(q:Int)<(d.size:Int):=by omega
     have ec:((y:Int)).toNat=y:=by omega
     have pc:(0:Int)<=(y:Int):=by omega
     have bc:(y:Int)<(d.size:Int):=by omega
     have wy2:IntKind.i64.wrap ((q:Int) - 1)=(y:Int):=by rw [IntKind.wrap_i64];omega
     have S2:Aside (SWK enc k w0 blk off (swp dk q y) ((wr.drew.setCells blk (off+q*k) (enc dk[y]!)).setCells blk (off+y*k) (enc dk[q]!))):=S1.out.swapped R q y (by omega) (by omega);have l44a:=S1.out.ld1 R (by omega) P q (by omega);have l44b:=S1.out.ld1 R (by omega) P y (by omega);have s44a:=S1.out.st1 R (by omega) P q (by omega) dk[y]!;have s44b:=S1.out.st2 R (by omega) P q y (by omega) (by omega) dk[y]! dk[q]!;have n44a:(enc dk[q]!).length=k:=R.hk _;have n44b:(enc dk[y]!).length=k:=R.hk _;generalize enc dk[q]! = cI44 at S2 l44a s44b n44a;generalize enc dk[y]! = cJ44 at S2 l44b s44a s44b n44b;clear S1 hy;go_big_region_o;clear l44a l44b s44a s44b;generalize (wr.drew.setCells blk (off+q*k) cJ44).setCells blk (off+y*k) cI44=w2 at S2⊢;clear wy2;go_wp2;go_roundg (y - j)
     case measure=>omega
     case rel=>exact ⟨y,swp dk q y,rfl,by omega,by omega,Nat.le_refl _,by rw [Go.Sort.size_swp];exact hds,S2,by have h:=HW.out;rw [HY.out] at h⊢;exact ae (h.down (by omega) (by omega))⟩
    ·have hqz:¬ (j:Int)<(q:Int):=by omega
     have hqe:q=j:=by omega
     have hm:kq (ltOf cf) a (m+1) d dk:=ux HO.out (i:=q) HW.out (by omega) (by omega) (by omega) HL.out (fun x h1 h2=>HX.out.1 x (by omega) (by omega)) (fun x h1 h2=>HX.out.2 x (by omega) h2);rw [hmb] at hm;have HM:=ae hm;clear hm;go_wp2
     (try simp only [Exit.inBlock,Exit.then]);refine bodyPost_ret (results_none rfl _ _ _) rfl ?_
     exact ⟨rfl,dk,HM.out,S1.out⟩
end
end
section
open Go.Shelf Go.RowKit Go.Lib Go.Sort
section
variable {P:Program} {α:Type} [Inhabited α]
theorem jD.right (a b:Nat) (d:Array α):jD a b b d d:=⟨permIn_refl _ _ _,fun x=>(nx a b (mn d) x).symm⟩
theorem kq.triv {lt:α->α->Bool} {a b:Nat} {d:Array α} (h:SortedIn lt a b d):kq lt a b d d:=⟨permIn_refl _ _ _,h⟩
structure kK (lt:α->α->Bool) (p s0 r0 s r:Nat) (d:Array α):Prop where
 a:s0<=s
 b:s<=r
 c:r<=r0
 lo:∀ x,s0<=x->x<s->lt d[p - x]! d[x]! = false
 hi:∀ x,r<=x->x<r0->lt d[p - x]! d[x]! = true
def kJ (a m b mid s0 r0:Nat):Prop:=(mid<m/\s0=mid+m - b/\r0=mid)\/(m<=mid/\s0=a/\r0=m)
theorem kK.up {lt:α->α->Bool} (hO:SWO lt) {a m b mid s0 r0 s r c:Nat} {d:Array α} (h:kK lt (mid+m - 1) s0 r0 s r d) (he:kJ a m b mid s0 r0) (_ham:a<m) (hmb:m<b) (hmid:mid=(a+b) / 2) (hl:SortedIn lt a m d) (hr:SortedIn lt m b d) (h1:s<=c) (h2:c<r) (hv:lt d[mid+m - 1 - c]! d[c]! = false):kK lt (mid+m - 1) s0 r0 (c+1) r d:=by
 have ha:=h.a;have hb:=h.b;have hc:=h.c;refine ⟨by omega,by omega,hc,fun x hx1 hx2=>?_,h.hi⟩;have e1:a<=x:=by rcases he with he | he <;> omega
 have e2:c<m:=by rcases he with he | he <;> omega
 have e3:m<=mid+m - 1 - c:=by rcases he with he | he <;> omega
 have e4:mid+m - 1 - x<b:=by rcases he with he | he <;> omega
 exact dx hO (dx hO (bB hO hl e1 (show x<=c by omega) e2) hv) (bB hO hr e3 (show mid+m - 1 - c<=mid+m - 1 - x by omega) e4)
theorem kK.down {lt:α->α->Bool} (hO:SWO lt) {a m b mid s0 r0 s r c:Nat} {d:Array α} (h:kK lt (mid+m - 1) s0 r0 s r d) (he:kJ a m b mid s0 r0) (_ham:a<m) (hmb:m<b) (hmid:mid=(a+b) / 2) (hl:SortedIn lt a m d) (hr:SortedIn lt m b d) (h1:s<=c) (h2:c<r) (hv:lt d[mid+m - 1 - c]! d[c]! = true):kK lt (mid+m - 1) s0 r0 s c d:=by
 have ha:=h.a;have hb:=h.b;have hc:=h.c;refine ⟨ha,h1,by omega,h.lo,fun x hx1 hx2=>?_⟩;have e1:a<=c:=by rcases he with he | he <;> omega
 have e2:x<m:=by rcases he with he | he <;> omega
 have e3:m<=mid+m - 1 - x:=by rcases he with he | he <;> omega
 have e4:mid+m - 1 - c<b:=by rcases he with he | he <;> omega
 cases hx:lt d[mid+m - 1 - x]! d[x]! with
 | true=>rfl
 | false =>
  have:=dx hO (dx hO (bB hO hl e1 hx1 e2) hx) (bB hO hr e3 (show mid+m - 1 - x<=mid+m - 1 - c by omega) e4);rw [this] at hv;cases hv
theorem kK.cut {lt:α->α->Bool} {a m b mid s0 r0 s:Nat} {d:Array α} (h:kK lt (mid+m - 1) s0 r0 s s d) (he:kJ a m b mid s0 r0) (ham:a<m) (hmb:m<b) (hmid:mid=(a+b) / 2):vp lt a m b mid s d:=by
 have ha:=h.a;have hc:=h.c;refine ⟨by rcases he with he | he <;> omega,by rcases he with he | he <;> omega,by rcases he with he | he <;> omega,by rcases he with he | he <;> omega,by rcases he with he | he <;> omega,?_,?_⟩
 ·by_cases e:s=s0
  ·rcases he with he | he
   ·exact .inl ⟨he.1,by omega⟩
   ·exact .inr (.inl ⟨he.1,by omega⟩)
  ·have:=h.lo (s - 1) (by omega) (by omega);rw [show mid+m - 1 - (s - 1)=mid+m - s by rcases he with he | he <;> omega] at this;exact .inr (.inr ⟨by rcases he with he | he <;> omega,by rcases he with he | he <;> omega,this⟩)
 ·by_cases e:s=r0
  ·rcases he with he | he
   ·exact .inl ⟨he.1,by omega⟩
   ·exact .inr (.inl ⟨he.1,by omega⟩)
  ·have:=h.hi s (Nat.le_refl _) (by omega);rw [show mid+m - 1 - s=mid+m - s - 1 by omega] at this;exact .inr (.inr ⟨by rcases he with he | he <;> omega,by rcases he with he | he <;> omega,this⟩)
theorem jD.sorted {lt:α->α->Bool} {a m b mid s:Nat} {d d1:Array α} (hR:jD s m (mid+m - s) d d1) (hc:vp lt a m b mid s d) (hl:SortedIn lt a m d) (hr:SortedIn lt m b d) :
  SortedIn lt a s d1/\SortedIn lt s mid d1/\SortedIn lt mid (mid+m - s) d1/\SortedIn lt (mid+m - s) b d1:=by
 obtain ⟨c1,c2,c3,c4,c5,_,_⟩:=hc;refine ⟨fun i j hi hij hj=>?_,fun i j hi hij hj=>?_,fun i j hi hij hj=>?_,fun i j hi hij hj=>?_⟩ <;> rw [hR.2,hR.2] <;> unfold dO mn
 ·rw [if_neg (by omega),if_neg (by omega),if_neg (by omega),if_neg (by omega)];exact hl i j hi hij (by omega)
 ·rw [if_pos (by omega),if_pos (by omega)];exact hr _ _ (by omega) (by omega) (by omega)
 ·rw [if_neg (by omega),if_pos (by omega),if_neg (by omega),if_pos (by omega)];exact hl _ _ (by omega) (by omega) (by omega)
 ·rw [if_neg (by omega),if_neg (by omega),if_neg (by omega),if_neg (by omega)];exact hr i j (by omega) hij hj
theorem sD (k:Nat) (L:Au P k) (enc:α->List Value) (cf:α->α->Int) (hO:SWO (ltOf cf)) (g:Nat) (cb:Array Value) (eg:∀ args w,(callFunc g args).run P w=.ok (.enter g args) w) (blk off cap:Nat) (d0:Array α) (w0:World)
  (hcmp:CmpLays P g cb enc k cf blk off d0.size w0) (R:RowK enc k w0 blk off d0) (hsz:d0.size<1152921504606846976):∀ (N a m b:Nat) (d:Array α) (w:World),b - a<=N->d0.size=d.size->SWK enc k w0 blk off d w->a<m->m<b->b<=d.size->SortedIn (ltOf cf) a m d->SortedIn (ltOf cf) m b d ->
  Calls P 261 #[.slice (some ⟨blk,off,none⟩) d0.size cap,.int .i64 a,.int .i64 m,.int .i64 b,.func (.func g) #[] cb] w fun e w'=>e=.returned (.tuple #[])/\∃ dn,kq (ltOf cf) a b d dn/\SWK enc k w0 blk off dn w':=by
 intro N;induction N with
 | zero=>intro a m b d w h _ _ h1 h2;omega
 | succ N ih =>
  intro a m b d w hN hs S ham hmb hb hl hr;by_cases c1:a+1=m
  ·have:=vf k L enc cf hO g cb eg blk off cap a m b d0 d w0 w hcmp R hs S c1 hmb hb (by omega) hr;rw [<-hs] at this;exact this
  by_cases c2:m+1=b
  ·have:=sE k L enc cf hO g cb eg blk off cap a m b d0 d w0 w hcmp R hs S ham c1 c2 hb (by omega) hl;rw [<-hs] at this;exact this
  have mixed:=L.mixed;have t0:=L.t0;have a0:=L.a0;have z0:=L.z0;have v0:=L.v0;have t3:=L.t3;have a3:=L.a3;have z3:=L.z3;have v3:=L.v3;have t4:=L.t4;have a4:=L.a4;have z4:=L.z4;have v4:=L.v4;have tu:=L.tu;have au:=L.au;have zu:=L.zu;have vu:=L.vu;have t22:=L.t22;have a22:=L.a22;have z22:=L.z22;have v22:=L.v22;have t25:=L.t25;have a25:=L.a25;have z25:=L.z25;have v25:=L.v25;have aE:=L.aE;have zE:=L.zE;have FG:=L.g145;have e147:∀ args w,(callFunc 267 args).run P w=.ok (.enter 267 args) w:=enters_of L.g147 (by kernel_rfl) rfl;have e145:∀ args w,(callFunc 261 args).run P w=.ok (.enter 261 args) w:=enters_of L.g145 (by kernel_rfl) rfl
  have HROT:Hid (∀ (a m b:Nat) (d:Array α) (w:World),d0.size=d.size->SWK enc k w0 blk off d w->a<m->m<b->b<=d.size ->
   Calls P 267 #[.slice (some ⟨blk,off,none⟩) d0.size cap,.int .i64 a,.int .i64 m,.int .i64 b,.func (.func g) #[] cb] w fun e w'=>e=.returned (.tuple #[])/\∃ dn,jD a m b d dn/\SWK enc k w0 blk off dn w') :=
   ae fun a m b d w h1 h2 h3 h4 h5=>by
    have:=xG k L enc g cb blk off cap a m b d0 d w0 w R h1 h2 h3 h4 h5 (by omega);rw [<-h1] at this;exact this
  have IH:=ae ih;have HC:Aside _:=hcmp;have S0:Aside (SWK enc k w0 blk off d w):=S;have HL:Hid (SortedIn (ltOf cf) a m d):=hl;have HR:Hid (SortedIn (ltOf cf) m b d):=hr;have HO:Hid (SWO (ltOf cf)):=ae hO;have hs1:d.size<=d0.size:=by omega
  have hs2:d0.size<=d.size:=by omega
  obtain ⟨mid,hmid⟩:∃ x,x=(a+b) / 2:=⟨_,rfl⟩;obtain ⟨nn,hnn⟩:∃ x,x=mid+m:=⟨_,rfl⟩;obtain ⟨ma,hma⟩:∃ x,x=m - a:=⟨_,rfl⟩;obtain ⟨bm,hbm⟩:∃ x,x=b - m:=⟨_,rfl⟩
  obtain ⟨s0,r0,hends⟩:∃ s0 r0,kJ a m b mid s0 r0:=by
   by_cases c:mid<m
   ·exact ⟨_,_,.inl ⟨c,rfl,rfl⟩⟩
   ·exact ⟨_,_,.inr ⟨by omega,rfl,rfl⟩⟩
  have HE:Hid (kJ a m b mid s0 r0):=hends;have HMID:Hid (mid=(a+b) / 2):=hmid;have HNN:Hid (nn=mid+m):=hnn;have q1:(m:Int) - (a:Int)=(ma:Int):=by omega
  have q1':((ma:Int) == 1)=false:=by simp;omega
  have q2:(b:Int) - (m:Int)=(bm:Int):=by omega
  have q2':((bm:Int) == 1)=false:=by simp;omega
  have hmas:(ma:Int)<1152921504606846976:=by omega
  have hbms:(bm:Int)<1152921504606846976:=by omega
  have q3:((a:Int)+(b:Int)) / 2=(mid:Int):=by omega
  have hab0:0<=(a:Int)+(b:Int):=by omega
  have hab9:(a:Int)+(b:Int)<4611686018427387904:=by omega
  have q4:(mid:Int)+(m:Int)=(nn:Int):=by omega
  have hnn9:(nn:Int)<4611686018427387904:=by omega
  obtain ⟨nb,hnb⟩:∃ x,x=nn - b:=⟨_,rfl⟩;obtain ⟨p,hp⟩:∃ x,x=nn - 1:=⟨_,rfl⟩;have q6:(nn:Int) - 1=(p:Int):=by omega
  have hp9:(p:Int)<4611686018427387904:=by omega
  have HP:Hid (p=mid+m - 1):=by show _=_;omega
  clear hends;clear S hcmp hl hr hO hmid hnn hma hbm ih c1 c2 hp HE hs s0 r0;obtain ⟨b0,hb0⟩:∃ x,decide (mid<m)=x:=⟨_,rfl⟩;go_enter FG,Tryz.ntmps261;go_upto_if 140 with fail
  have HB0:=ae hb0;clear hb0;go_cut [20,21] from 141 to 146 (fun v20 v21 wx=>∃ s0 r0:Nat,v20=.int .i64 s0/\v21=.int .i64 r0/\Hid (kJ a m b mid s0 r0)/\Aside (SWK enc k w0 blk off d wx))
  case first =>
   cases b0 with
   | true =>
    have c:mid<m:=by have:=of_decide_eq_true HB0.out;omega
    have q5:(nn:Int) - (b:Int)=(nb:Int):=by have h1:=HNN.out;have h2:=HMID.out;omega
    have HE:Hid (kJ a m b mid nb mid):=ae (.inl ⟨c,by have h1:=HNN.out;omega,rfl⟩);clear hnb c;go_wp2_with fail;go_meet;exact ⟨nb,mid,rfl,rfl,HE,S0⟩
   | false =>
    have c:¬ mid<m:=by have:=of_decide_eq_false HB0.out;omega
    have HE:Hid (kJ a m b mid a m):=ae (.inr ⟨by omega,rfl,rfl⟩);clear hnb c;go_wp2_with fail;go_meet;exact ⟨a,m,rfl,rfl,HE,S0⟩
  case rest=>as_aux_lemma =>
   clear S0;obtain ⟨s0,r0,rfl,rfl,HE,S0⟩:=hcut;have hr0:r0<=m/\r0<=mid/\a<=s0/\s0<=r0/\nn - s0<=b/\m<=nn - r0:=by have h1:=HNN.out;have h2:=HMID.out;rcases HE.out with h | h <;> omega
   obtain ⟨g1,g2,g3,g4,g5,g6⟩:=hr0;have hS0:Hid (∃ s0' r0',kJ a m b mid s0' r0'/\kK (ltOf cf) (mid+m - 1) s0' r0' s0 r0 d):=ae ⟨s0,r0,HE.out,⟨Nat.le_refl _,g4,Nat.le_refl _,fun x _ _=>by omega,fun x _ _=>by omega⟩⟩;clear hnb HE;go_wp2;go_loopg [20,21] (r0 - s0) (fun kx s20 s21 wr=>∃ (s r:Nat),s20=.int .i64 s/\s21=.int .i64 r/\a<=s/\s<=r/\r<=m/\r<=mid/\nn - s<=b/\m<=nn - r/\r - s<=kx/\Aside (SWK enc k w0 blk off d wr)/\Hid (∃ s0' r0',kJ a m b mid s0' r0'/\kK (ltOf cf) (mid+m - 1) s0' r0' s r d))
   case atStart=>exact ⟨s0,r0,rfl,rfl,g3,g4,g1,g2,g5,g6,Nat.le_refl _,S0,hS0⟩
   case round=>as_aux_lemma =>
    clear S0 hS0;obtain ⟨s,r,rfl,rfl,has,hsr,hrm,hrmid,hsb,hrn,hkx,S1,HX⟩:=hrel;by_cases hlt:s<r
    ·have hltz:(s:Int)<(r:Int):=by omega
     obtain ⟨c,hc⟩:∃ c,c=(s+r) / 2:=⟨_,rfl⟩;have hb1:(s:Int)+(r:Int)<4611686018427387904:=by omega
     have hb0:0<=(s:Int)+(r:Int):=by omega
     have hce:((s:Int)+(r:Int)) / 2=(c:Int):=by omega
     have hsc:s<=c:=by omega
     have hcr:c<r:=by omega
     obtain ⟨y,hy⟩:∃ y,y=mid+m - 1 - c:=⟨_,rfl⟩;have hyp:(p:Int) - (c:Int)=(y:Int):=by have:=HP.out;omega
     have hy9:(y:Int)<4611686018427387904:=by omega
     have hyb:y<b:=by have:=HNN.out;omega
     have hcb:c<d.size:=by omega
     have hyd:y<d.size:=by omega
     have HYM:=ae hy;clear hc;cases hlv:ltOf cf d[y]! d[c]! with
     | true=>as_aux_lemma =>
      have HN:Hid (∃ s0' r0',kJ a m b mid s0' r0'/\kK (ltOf cf) (mid+m - 1) s0' r0' s c d):=by
       obtain ⟨x0,x1,h1,h2⟩:=HX.out;exact ae ⟨x0,x1,h1,h2.down HO.out h1 ham hmb HMID.out HL.out HR.out hsc hcr (by rw [<-hy];exact hlv)⟩
      have hcn:m<=nn - c:=by have:=HNN.out;omega
      clear hy;have ea:((y:Nat):Int).toNat=y:=by omega
      have pa:(0:Int)<=(y:Int):=by omega
      have ba:(y:Int)<(d0.size:Int):=by omega
      have ec:((c:Nat):Int).toNat=c:=by omega
      have pc:(0:Int)<=(c:Int):=by omega
      have bc:(c:Int)<(d0.size:Int):=by omega
      obtain ⟨vx,hvx⟩:∃ z,z=d[y]!:=⟨_,rfl⟩;obtain ⟨vy,hvy⟩:∃ z,z=d[c]!:=⟨_,rfl⟩;have la:=S1.out.ld R (by omega) P y (by omega);have lb:=S1.out.ld R (by omega) P c (by omega);rw [<-hvx] at la;rw [<-hvy] at lb;have hcm:=S1.out.cmp HC.out (by omega) vx vy;have hv:cf vx vy<0:=by rw [hvx,hvy];exact of_decide_eq_true hlv
      have hd:decide (cf vx vy<0)=true:=decide_eq_true hv;clear hvx hvy;have hyw:IntKind.i64.wrap (y:Int)=(y:Int):=by rw [IntKind.wrap_i64];omega
      go_wp2_with fail;go_quiet_grown (first | (go_at_fn g;refine Calls.grown_of (hcm _ _)));have S2:Aside (SWK enc k w0 blk off d (grow (wr.drewN nq) osq)):=S1.out.grown nq osq;clear la lb hcm S1 hyw;generalize grow (wr.drewN nq) osq=w2 at S2⊢;clear nq osq;go_wp2;go_roundg (c - s)
      case measure=>omega
      case rel=>exact ⟨s,c,rfl,rfl,has,hsc,by omega,by omega,hsb,hcn,Nat.le_refl _,S2,HN⟩
     | false=>as_aux_lemma =>
      have HN:Hid (∃ s0' r0',kJ a m b mid s0' r0'/\kK (ltOf cf) (mid+m - 1) s0' r0' (c+1) r d):=by
       obtain ⟨x0,x1,h1,h2⟩:=HX.out;exact ae ⟨x0,x1,h1,h2.up HO.out h1 ham hmb HMID.out HL.out HR.out hsc hcr (by rw [<-hy];exact hlv)⟩
      clear hy;have ea:((y:Nat):Int).toNat=y:=by omega
      have pa:(0:Int)<=(y:Int):=by omega
      have ba:(y:Int)<(d0.size:Int):=by omega
      have ec:((c:Nat):Int).toNat=c:=by omega
      have pc:(0:Int)<=(c:Int):=by omega
      have bc:(c:Int)<(d0.size:Int):=by omega
      obtain ⟨vx,hvx⟩:∃ z,z=d[y]!:=⟨_,rfl⟩;obtain ⟨vy,hvy⟩:∃ z,z=d[c]!:=⟨_,rfl⟩;have la:=S1.out.ld R (by omega) P y (by omega);have lb:=S1.out.ld R (by omega) P c (by omega);rw [<-hvx] at la;rw [<-hvy] at lb;have hcm:=S1.out.cmp HC.out (by omega) vx vy;have hv:¬ cf vx vy<0:=by rw [hvx,hvy];exact of_decide_eq_false hlv
      have hd:decide (cf vx vy<0)=false:=decide_eq_false hv;clear hvx hvy;have hyw:IntKind.i64.wrap (y:Int)=(y:Int):=by rw [IntKind.wrap_i64];omega
      go_wp2_with fail;go_quiet_grown (first | (go_at_fn g;refine Calls.grown_of (hcm _ _)));have S2:Aside (SWK enc k w0 blk off d (grow (wr.drewN nq) osq)):=S1.out.grown nq osq;clear la lb hcm S1 hyw;generalize grow (wr.drewN nq) osq=w2 at S2⊢;clear nq osq;go_wp2;go_roundg (r - (c+1))
      case measure=>omega
      case rel=>exact ⟨c+1,r,by go_num,rfl,by omega,by omega,hrm,hrmid,by omega,hrn,Nat.le_refl _,S2,HN⟩
    ·have hltz:¬ (s:Int)<(r:Int):=by omega
     have hre:r=s:=by omega
     subst hre
     have hcut:vp (ltOf cf) a m b mid r d:=by
      obtain ⟨x0,x1,h1,h2⟩:=HX.out;exact h2.cut h1 ham hmb HMID.out
     have HCUT:Hid (vp (ltOf cf) a m b mid r d):=hcut;obtain ⟨e,he⟩:∃ e,e=nn - r:=⟨_,rfl⟩;have q8:(nn:Int) - (r:Int)=(e:Int):=by omega
     have he9:(e:Int)<4611686018427387904:=by omega
     have HEE:Hid (e=mid+m - r):=by show _=_;have:=HNN.out;omega
     have heb:e<=b:=by omega
     have hme:m<=e:=by omega
     have hmide:mid<=e:=by have:=HNN.out;omega
     have hamid:a<mid:=by have:=HMID.out;omega
     have hmidb:mid<b:=by have:=HMID.out;omega
     clear hcut he HX hltz;go_upto_region 39 with fail
     obtain ⟨b1,hb1⟩:∃ x:Bool,x=decide (r<m/\m<e):=⟨_,rfl⟩;have HB1:=ae hb1;clear hb1;go_cut [185] (fun v wx=>v=.bool b1/\Aside (SWK enc k w0 blk off d wx))
     case first=>as_aux_lemma =>
      by_cases h1:r<m
      ·have h1':(r:Int)<(m:Int):=by omega
       by_cases h2:m<e
       ·have h2':(m:Int)<(e:Int):=by omega
        have hb:b1=true:=by rw [HB1.out];simp [h1,h2]
        subst hb;go_wp2_with fail;go_meet;exact ⟨rfl,S1⟩
       ·have h2':¬ (m:Int)<(e:Int):=by omega
        have hb:b1=false:=by rw [HB1.out];simp [h2]
        subst hb;go_wp2_with fail;go_meet;exact ⟨rfl,S1⟩
      ·have h1':¬ (r:Int)<(m:Int):=by omega
       have hb:b1=false:=by rw [HB1.out];simp [h1]
       subst hb;go_wp2_with fail;go_meet;exact ⟨rfl,S1⟩
     case rest=>as_aux_lemma =>
      clear S1;obtain ⟨rfl,S1⟩:=hcut
      have hrot:Hid (jD r m e d d\/b1=true):=by
       rcases Nat.lt_or_ge r m with h1 | h1
       ·rcases Nat.lt_or_ge m e with h2 | h2
        ·exact ae (.inr (by rw [HB1.out];simp [h1,h2]))
        ·have:e=m:=by omega
         rw [this];exact ae (.inl (jD.right r m d))
       ·have:r=m:=by omega
        rw [this];exact ae (.inl (jD.none m e d))
      go_upto_if 185 with fail
      go_cut [] (fun wx=>∃ d1:Array α,Aside (SWK enc k w0 blk off d1 wx)/\Hid (jD r m e d d1))
      case first=>as_aux_lemma =>
       cases b1 with
       | true =>
        have hc1:r<m/\m<e:=by have:=HB1.out;simpa using this.symm
        have HCR:=ae (HROT.out r m e d wc (by omega) S1.out hc1.1 hc1.2 (by omega));clear hc1;go_wp2_with (go_at_fn 267;refine HCR.out.mono ?_;rintro e' w2 ⟨rfl,d1,hr1,hs1'⟩);go_meet;exact ⟨d1,hs1',ae hr1⟩
       | false =>
        go_wp2_with fail;go_meet;exact ⟨d,S1,ae (by rcases hrot.out with h | h;exact h;cases h)⟩
      case rest=>as_aux_lemma =>
       clear S1 HB1 hrot;obtain ⟨d1,S1,HRT⟩:=hcut;have hd1:d1.size=d.size:=HRT.out.1.1;have hd1a:d1.size<=d.size:=by omega
       have hd1b:d.size<=d1.size:=by omega
       have hsorted:=HRT.out;rw [HEE.out] at hsorted;have hsrt:=hsorted.sorted HCUT.out HL.out HR.out;rw [<-HEE.out] at hsrt;have HSRT:=ae hsrt;clear hsorted hsrt hd1;clear b1;go_upto_region 41 with fail
       obtain ⟨b2,hb2⟩:∃ q:Bool,q=decide (a<r/\r<mid):=⟨_,rfl⟩;have HB:=ae hb2;clear hb2;go_cut [199] (fun v wx=>v=.bool b2/\Aside (SWK enc k w0 blk off d1 wx))
       case first=>as_aux_lemma =>
        by_cases h1:a<r
        ·have h1':(a:Int)<(r:Int):=by omega
         by_cases h2:r<mid
         ·have h2':(r:Int)<(mid:Int):=by omega
          have hb:b2=true:=by rw [HB.out];simp [h1,h2]
          subst hb;go_wp2_with fail;go_meet;exact ⟨rfl,S1⟩
         ·have h2':¬ (r:Int)<(mid:Int):=by omega
          have hb:b2=false:=by rw [HB.out];simp [h2]
          subst hb;go_wp2_with fail;go_meet;exact ⟨rfl,S1⟩
        ·have h1':¬ (a:Int)<(r:Int):=by omega
         have hb:b2=false:=by rw [HB.out];simp [h1]
         subst hb;go_wp2_with fail;go_meet;exact ⟨rfl,S1⟩
       case rest=>as_aux_lemma =>
        clear S1;obtain ⟨rfl,S1⟩:=hcut;go_upto_if 199 with fail
        go_cut [] (fun wx=>∃ d2:Array α,Aside (SWK enc k w0 blk off d2 wx)/\Hid (kq (ltOf cf) a mid d1 d2))
        case first=>as_aux_lemma =>
         cases b2 with
         | true =>
          have hc1:a<r/\r<mid:=by have:=HB.out;simpa using this.symm
          have HCR:=ae (IH.out a r mid d1 wc (by omega) (by omega) S1.out hc1.1 hc1.2 (by omega) HSRT.out.1 HSRT.out.2.1);clear hc1;go_wp2_with (go_at_fn 261;refine HCR.out.mono ?_;rintro e' w2 ⟨rfl,d2,hr1,hs1'⟩);go_meet;exact ⟨d2,hs1',ae hr1⟩
         | false =>
          have HT:Hid (kq (ltOf cf) a mid d1 d1):=ae (kq.triv (by
           have h0:=HB.out;have h1:¬ (a<r/\r<mid):=by simpa using h0.symm
           rcases Nat.lt_or_ge a r with h2 | h2
           ·have h3:r=mid:=by omega
            rw [<-h3];exact HSRT.out.1
           ·have h3:r=a:=by omega
            have h4:=HSRT.out.2.1;rw [h3] at h4;exact h4))
          go_wp2_with fail;go_meet;exact ⟨_,S1,HT⟩
        case rest=>as_aux_lemma =>
         clear S1 HB;obtain ⟨d2,S1,HM_d2⟩:=hcut;have hd2:d2.size=d1.size:=HM_d2.out.1.1;have hd2a:d2.size<=d1.size:=by omega
         have hd2b:d1.size<=d2.size:=by omega
         have HS2:Hid (SortedIn (ltOf cf) mid e d2/\SortedIn (ltOf cf) e b d2):=by
          have hc:=fun i (h1:mid<=i)=>HM_d2.out.1.2.1 i (.inr h1)
          exact ae ⟨HSRT.out.2.2.1.congr fun i h1 _=>hc i h1,HSRT.out.2.2.2.congr fun i h1 _=>hc i (by omega)⟩
         clear hd2 b2;go_upto_region 43 with fail
         obtain ⟨b3,hb3⟩:∃ q:Bool,q=decide (mid<e/\e<b):=⟨_,rfl⟩;have HB:=ae hb3;clear hb3;go_cut [213] (fun v wx=>v=.bool b3/\Aside (SWK enc k w0 blk off d2 wx))
         case first=>as_aux_lemma =>
          by_cases h1:mid<e
          ·have h1':(mid:Int)<(e:Int):=by omega
           by_cases h2:e<b
           ·have h2':(e:Int)<(b:Int):=by omega
            have hb:b3=true:=by rw [HB.out];simp [h1,h2]
            subst hb;go_wp2_with fail;go_meet;exact ⟨rfl,S1⟩
           ·have h2':¬ (e:Int)<(b:Int):=by omega
            have hb:b3=false:=by rw [HB.out];simp [h2]
            subst hb;go_wp2_with fail;go_meet;exact ⟨rfl,S1⟩
          ·have h1':¬ (mid:Int)<(e:Int):=by omega
           have hb:b3=false:=by rw [HB.out];simp [h1]
           subst hb;go_wp2_with fail;go_meet;exact ⟨rfl,S1⟩
         case rest=>as_aux_lemma =>
          clear S1;obtain ⟨rfl,S1⟩:=hcut;have hf:Hid (∀ d3:Array α,kq (ltOf cf) mid b d2 d3->kq (ltOf cf) a b d d3):=ae fun d3 h3=>uw HO.out ham hmb HMID.out hb HL.out HR.out HCUT.out (by have h:=HRT.out;rw [HEE.out] at h;exact h) HM_d2.out h3
          cases b3 with
          | true =>
           have hc1:mid<e/\e<b:=by have:=HB.out;simpa using this.symm
           have HCR:=ae (IH.out mid e b d2 wc (by omega) (by omega) S1.out hc1.1 hc1.2 (by omega) HS2.out.1 HS2.out.2);clear hc1;go_wp2_with (go_at_fn 261;refine HCR.out.mono ?_;rintro e' w2 ⟨rfl,d3,hr1,hs1'⟩);go_end0;exact ⟨rfl,d3,hf.out d3 hr1,hs1'⟩
          | false =>
           have HT:Hid (kq (ltOf cf) mid b d2 d2):=ae (kq.triv (by
            have h0:=HB.out;have h1:¬ (mid<e/\e<b):=by simpa using h0.symm
            rcases Nat.lt_or_ge mid e with h2 | h2
            ·have h3:e=b:=by omega
             rw [<-h3];exact HS2.out.1
            ·have h3:e=mid:=by omega
             have h4:=HS2.out.2;rw [h3] at h4;exact h4))
           go_wp2_with fail;go_end0;exact ⟨rfl,d2,hf.out d2 HT.out,S1.out⟩
end
end
section
open Go.Shelf Go.RowKit Go.Lib Go.Sort
section
variable {α:Type} [Inhabited α] {lt:α->α->Bool}
theorem jg {k x a:Nat} (h1:k ∣ x) (h2:k ∣ a) (h:x<a):x+k<=a:=by
 obtain ⟨u,rfl⟩:=h1;obtain ⟨v,rfl⟩:=h2
 have:u<v:=Nat.lt_of_mul_lt_mul_left h
 have:=Nat.mul_le_mul_left k (show u+1<=v from this);rw [Nat.mul_add,Nat.mul_one] at this;exact this
def nL (lt:α->α->Bool) (k a:Nat) (d:Array α):Prop:=∀ x,k ∣ x->x<a->SortedIn lt x (x+k) d
def mp (lt:α->α->Bool) (k a n:Nat) (d:Array α):Prop:=∀ x,k ∣ x->a<=x->SortedIn lt x (min (x+k) n) d
theorem nL.step {k a:Nat} {d d':Array α} (h:nL lt k a d) (ha:k ∣ a) (hm:kq lt a (a+k) d d'):nL lt k (a+k) d':=by
 intro x hx hxa;by_cases e:x<a
 ·have:=jg hx ha e;exact (h x hx e).congr fun i _ h2=>hm.1.2.1 i (.inl (by omega))
 ·have:x=a:=by
   by_cases e2:a<x
   ·have:=jg ha hx e2;omega
   ·omega
  subst this;exact hm.2
theorem nL.last {k a n:Nat} {d d':Array α} (h:nL lt k a d) (ha:k ∣ a) (han:a<=n) (hn:n<a+k) (hm:kq lt a n d d'):mp lt k 0 n d':=by
 intro x hx _;by_cases e:x<a
 ·have:=jg hx ha e;rw [Nat.min_eq_left (by omega)];exact (h x hx e).congr fun i _ h2=>hm.1.2.1 i (.inl (by omega))
 ·by_cases e2:a<x
  ·have:=jg ha hx e2;rw [Nat.min_eq_right (by omega)];exact fun i j h1 h2 h3=>by omega
  ·have:x=a:=by omega
   subst this;rw [Nat.min_eq_right (by omega)];exact hm.2
theorem mp.step {k a n b:Nat} {d d':Array α} (h:mp lt k a n d) (hab:a<=b) (hp:PermIn a b d d'):mp lt k b n d':=fun x hx hxb =>
 (h x hx (by omega)).congr fun i h1 _=>hp.2.1 i (.inr (by omega))
theorem zW (hO:SWO lt) (d:Array α) (a b:Nat) (hab:a<=b) (hb:b<=d.size):kq lt a b d (Sort.insertionSort lt d a b):=by
 have h:=insertionSort_holds hO d a b hab hb;exact ⟨h.1,h.2⟩
end
def qx:Go.Shelf.Ren:=⟨fun | 20=>260 | n=>n,fun | 24=>99 | 22=>93 | 3=>3 | 25=>196 | 4=>4 | 0=>0 | n=>n,fun | n=>n⟩
theorem tm:Go.Proofs.SlLaysF0.n20 Tryz.prog qx:={
 mixed:=by kernel_rfl
 f20:=⟨Tryz.f260.name,by decide,Tryz.func260.trans (congrArg some (by kernel_rfl))⟩
 t0:=Tryz.underlying0
 a0:=Tryz.isAgg0
 z0:=Tryz.sizeOf0
 v0:=Tryz.zeroValue0
 t3:=Tryz.underlying3
 a3:=Tryz.isAgg3
 z3:=Tryz.sizeOf3
 v3:=Tryz.zeroValue3
 t4:=Tryz.underlying4
 a4:=Tryz.isAgg4
 z4:=Tryz.sizeOf4
 v4:=Tryz.zeroValue4
 t22:=Tryz.underlying93
 a22:=Tryz.isAgg93
 z22:=Tryz.sizeOf93
 v22:=Tryz.zeroValue93
 t25:=Tryz.underlying196
 a25:=Tryz.isAgg196
 z25:=Tryz.sizeOf196
 v25:=Tryz.zeroValue196 }
theorem pe (blk off size:Nat) (w:World):CmpLays Tryz.prog 188 #[] bQ 3 iy blk off size w:=fun _ _ _ _ x y=>wA x y _
theorem yX {blk off:Nat} {d:Array Nat} {w:World} (hH:HoldsK bQ 3 w blk off d) (hb:blk<w.heap.size):RowK bQ 3 w blk off d where
 hk _:=rfl
 h1 x v hv:=by simp [bQ,aU] at hv;rcases hv with rfl | rfl | rfl <;> rfl
 hH:=hH
 hblk:=hb
theorem sA (blk off cap:Nat) (d:Array Nat) (w0:World) (hH:HoldsK bQ 3 w0 blk off d) (hblk:blk<w0.heap.size) (hsz:d.size<=1000000000) :
  Calls Tryz.prog 240 #[.slice (some ⟨blk,off,none⟩) d.size cap,.int .i64 d.size,.func (.func 188) #[] #[]] w0 fun e w'=>e=.returned (.tuple #[])/\∃ dn,kq (ltOf iy) 0 d.size d dn/\SWK bQ 3 w0 blk off dn w':=by
 have R:=yX hH hblk;have eg:∀ args w,(callFunc 188 args).run Tryz.prog w=.ok (.enter 188 args) w:=enters_of Tryz.func188 (by kernel_rfl) rfl
 have HINS:Hid (∀ (a b:Nat) (dk:Array Nat) (w:World),dk.size=d.size->SWK bQ 3 w0 blk off dk w->a<=b->b<=d.size ->
   Calls Tryz.prog 260 #[.slice (some ⟨blk,off,none⟩) d.size cap,.int .i64 a,.int .i64 b,.func (.func 188) #[] #[]] w fun e w'=>e=.returned (.tuple #[])/\∃ dn,kq (ltOf iy) a b dk dn/\SWK bQ 3 w0 blk off dn w') :=
  ae fun a b dk w h1 h2 h3 h4=>by
   have:=AnyQ.insertionSortCmpFunc_w (P:=Tryz.prog) tm 3 Tryz.isAgg99 Tryz.sizeOf99 bQ iy 188 #[] blk off cap a b d dk w0 w eg (pe blk off d.size w0) R h1.symm h2 Aq h3 (by omega) (by omega);rw [h1] at this;exact this.mono fun e w' ⟨he,hw⟩=>⟨he,_,zW Aq dk a b h3 (by omega),hw⟩
 have HSYM:Hid (∀ (a m b:Nat) (dk:Array Nat) (w:World),dk.size=d.size->SWK bQ 3 w0 blk off dk w->a<m->m<b->b<=d.size->SortedIn (ltOf iy) a m dk->SortedIn (ltOf iy) m b dk ->
   Calls Tryz.prog 261 #[.slice (some ⟨blk,off,none⟩) d.size cap,.int .i64 a,.int .i64 m,.int .i64 b,.func (.func 188) #[] #[]] w fun e w'=>e=.returned (.tuple #[])/\∃ dn,kq (ltOf iy) a b dk dn/\SWK bQ 3 w0 blk off dn w') :=
  ae fun a m b dk w h1 h2 h3 h4 h5 h6 h7=>sD 3 Bn bQ iy Aq 188 #[] eg blk off cap d w0 (pe blk off d.size w0) R (by omega) (b - a) a m b dk w (Nat.le_refl _) h1.symm h2 h3 h4 (by omega) h6 h7
 have S0:Aside (SWK bQ 3 w0 blk off d w0):=SWK.start hH;have HH:Hid _:=R;clear R hH eg;obtain ⟨n,hn⟩:∃ n,n=d.size:=⟨_,rfl⟩;have HN:=ae hn;rw [<-hn] at HINS HSYM hsz⊢;clear hn;go_enter Tryz.func240,Tryz.ntmps240;go_wp2;go_loopg [7,8] (n+20) (fun kx s7 s8 wr=>∃ (a:Nat) (dk:Array Nat),s7=.int .i64 a/\s8=.int .i64 (a+20:Nat)/\a<=n/\n+20 - a<=kx/\Aside (SWK bQ 3 w0 blk off dk wr)/\Hid (20 ∣ a/\PermIn 0 n d dk/\nL (ltOf iy) 20 a dk))
 case atStart=>exact ⟨0,d,rfl,rfl,Nat.zero_le _,by omega,S0,ae ⟨⟨0,rfl⟩,permIn_refl _ _ _,fun x _ h=>by omega⟩⟩
 case round =>
  clear S0;obtain ⟨a,dk,rfl,rfl,han,hkx,S1,HW⟩:=hrel;obtain ⟨b,hb⟩:∃ b,b=a+20:=⟨_,rfl⟩;rw [<-hb];have hds:dk.size=n:=by rw [HW.out.2.1.1,HN.out]
  by_cases hlt:b<=n
  ·have hltz:(b:Int)<=(n:Int):=by omega
   have HCI:=ae (HINS.out a b dk wr (by have:=HN.out;omega) S1.out (by omega) (by omega));have HB:=ae hb;have hb20:(b:Int)+20<4611686018427387904:=by omega
   have hba:a<b:=by omega
   have hbk:n+20 - b<n+20 - a:=by omega
   clear hb S1 hds;go_wp2_with (go_at_call 260;refine HCI.out.mono ?_;rintro e w2 ⟨rfl,dn,hm,hs⟩)
   have hrel2:Hid (20 ∣ b/\PermIn 0 n d dn/\nL (ltOf iy) 20 b dn):=by
    obtain ⟨h1,h2,h3⟩:=HW.out;have hm':=hm;rw [HB.out] at hm'⊢;exact ae ⟨Nat.dvd_add h1 (Nat.dvd_refl 20),permIn_trans _ _ _ _ _ h2 (permIn_mono _ _ _ _ _ _ (Nat.zero_le _) (by have:=HB.out;omega) (by rw [h2.1,HN.out];omega) hm'.1),h3.step h1 hm'⟩
   have S2:Aside (SWK bQ 3 w0 blk off dn w2):=hs;clear hm hs HCI HW HB;go_wp2;go_roundg (n+20 - b)
   case measure=>omega
   case rel=>exact ⟨b,dn,rfl,by go_num,hlt,Nat.le_refl _,S2,hrel2⟩
  ·have hltz:¬ (b:Int)<=(n:Int):=by omega
   have HCI:=ae (HINS.out a n dk wr (by have:=HN.out;omega) S1.out han (Nat.le_refl _));have HB:=ae hb;have hnb:n<a+20:=by omega
   clear hb S1 hds;go_wp2_with (go_at_call 260;refine HCI.out.mono ?_;rintro e w2 ⟨rfl,dn,hm,hs⟩)
   have hrel2:Hid (PermIn 0 n d dn/\mp (ltOf iy) 20 0 n dn):=by
    obtain ⟨h1,h2,h3⟩:=HW.out;exact ae ⟨permIn_trans _ _ _ _ _ h2 (permIn_mono _ _ _ _ _ _ (Nat.zero_le _) (Nat.le_refl _) (by rw [h2.1,HN.out];exact Nat.le_refl _) hm.1),h3.last h1 han hnb hm⟩
   have S2:Aside (SWK bQ 3 w0 blk off dn w2):=hs;clear hm hs HCI HW HB;go_wp2;clear HINS;go_loopg [6] n (fun kx s6 wr=>∃ (bs:Nat) (dk:Array Nat),s6=.int .i64 bs/\0<bs/\bs<=2000000000/\n - bs<=kx/\Aside (SWK bQ 3 w0 blk off dk wr)/\Hid (PermIn 0 n d dk/\mp (ltOf iy) bs 0 n dk))
   case atStart=>exact ⟨20,dn,rfl,by omega,by omega,by omega,S2,hrel2⟩
   case round =>
    clear S2 hrel2 hltz hnb hkx han;obtain ⟨bs,dk2,rfl,hbs0,hbs9,hkx2,S3,HW⟩:=hrel;by_cases hlt2:bs<n
    ·have hltz2:(bs:Int)<(n:Int):=by omega
     obtain ⟨t,ht⟩:∃ t,t=2*bs:=⟨_,rfl⟩;have q1:2*(bs:Int)=(t:Int):=by omega
     have q2:(bs:Int)*2=(t:Int):=by omega
     have ht9:(t:Int)<=2000000000:=by omega
     have HT:=ae ht;have hbst:bs<t:=by omega
     clear ht;go_wp2;go_loopg [7,8] (n+t) (fun kx s7 s8 wr=>∃ (a c:Nat) (dk:Array Nat),s7=.int .i64 a/\s8=.int .i64 c/\Hid (c=a+t)/\a<=n/\n+t - a<=kx/\Aside (SWK bQ 3 w0 blk off dk wr)/\Hid (t ∣ a/\PermIn 0 n d dk/\nL (ltOf iy) t a dk/\mp (ltOf iy) bs a n dk))
     case atStart=>exact ⟨0,t,dk2,rfl,rfl,ae (by omega),Nat.zero_le _,by omega,S3,ae ⟨⟨0,rfl⟩,HW.out.1,fun x _ h=>by omega,HW.out.2⟩⟩
     case round =>
      clear S3 HW;obtain ⟨a2,c,dk3,rfl,rfl,HCA,han2,hkx3,S4,HW⟩:=hrel;have hca:=HCA.out;obtain ⟨m,hm⟩:∃ m,m=a2+bs:=⟨_,rfl⟩;have q3:(a2:Int)+(bs:Int)=(m:Int):=by omega
      have hm9:(m:Int)<=4000000000:=by omega
      have hdsz:dk3.size=d.size:=HW.out.2.1.1;have hdsa:d.size=n:=HN.out.symm
      have HDV:Hid (bs ∣ a2/\bs ∣ m):=ae (by
       have h1:bs ∣ a2:=Nat.dvd_trans ⟨2,by have:=HT.out;omega⟩ HW.out.1;exact ⟨h1,by rw [hm];exact Nat.dvd_add h1 (Nat.dvd_refl bs)⟩)
      have HL:Hid (SortedIn (ltOf iy) a2 (min m n) dk3):=ae (by rw [hm];exact HW.out.2.2.2 a2 HDV.out.1 (Nat.le_refl _))
      have HR:Hid (SortedIn (ltOf iy) m (min c n) dk3):=ae (by
       have h:=HW.out.2.2.2 m HDV.out.2 (by omega);rw [show m+bs=c by have:=HT.out;omega] at h;exact h)
      by_cases hlt3:c<=n
      ·have hltz3:(c:Int)<=(n:Int):=by omega
       have hl2:SortedIn (ltOf iy) a2 m dk3:=by have h:=HL.out;rw [Nat.min_eq_left (by omega)] at h;exact h
       have hr2:SortedIn (ltOf iy) m c dk3:=by have h:=HR.out;rw [Nat.min_eq_left (by omega)] at h;exact h
       have HCS:=ae (HSYM.out a2 m c dk3 wr (by omega) S4.out (by omega) (by have:=HT.out;omega) hlt3 hl2 hr2);obtain ⟨c',hc'⟩:∃ c',c'=c+t:=⟨_,rfl⟩;have q4:(c:Int)+(t:Int)=(c':Int):=by omega
       have hc9:(c':Int)<=8000000000:=by omega
       have HCC:Hid (c'=c+t):=ae hc';have hac:a2<c:=by omega
       clear hm hl2 hr2 hc' hca S4 hdsz hdsa;go_wp2_with (go_at_call 261;refine HCS.out.mono ?_;rintro e w3 ⟨rfl,d4,hmg,hs4⟩)
       have hrel4:Hid (t ∣ c/\PermIn 0 n d d4/\nL (ltOf iy) t c d4/\mp (ltOf iy) bs c n d4):=by
        obtain ⟨h1,h2,h3,h4⟩:=HW.out;have hc:=HCA.out;refine ae ⟨by rw [hc];exact Nat.dvd_add h1 (Nat.dvd_refl t),permIn_trans _ _ _ _ _ h2 (permIn_mono _ _ _ _ _ _ (Nat.zero_le _) hlt3 (by rw [h2.1,HN.out];exact Nat.le_refl _) hmg.1),?_,h4.step (by omega) hmg.1⟩;rw [hc] at hmg⊢;exact h3.step h1 hmg
       have S5:Aside (SWK bQ 3 w0 blk off d4 w3):=hs4;have hgo:n+t - c<n+t - a2:=by omega
       clear hmg hs4 HCS HW HCA HL HR HDV q3;go_wp2;go_roundg (n+t - c)
       case measure=>omega
       case rel=>exact ⟨c,c',d4,rfl,rfl,HCC,hlt3,Nat.le_refl _,S5,hrel4⟩
      ·have hltz3:¬ (c:Int)<=(n:Int):=by omega
       by_cases hlt4:m<n
       ·have hltz4:(m:Int)<(n:Int):=by omega
        have hl2:SortedIn (ltOf iy) a2 m dk3:=by have h:=HL.out;rw [Nat.min_eq_left (by omega)] at h;exact h
        have hr2:SortedIn (ltOf iy) m n dk3:=by have h:=HR.out;rw [Nat.min_eq_right (by omega)] at h;exact h
        have HCS:=ae (HSYM.out a2 m n dk3 wr (by omega) S4.out (by omega) hlt4 (by omega) hl2 hr2);have hcn:n<a2+t:=by omega
        clear hm hl2 hr2 hca S4 hdsz hdsa;go_wp2_with (go_at_call 261;refine HCS.out.mono ?_;rintro e w3 ⟨rfl,d4,hmg,hs4⟩)
        have hrel4:Hid (PermIn 0 n d d4/\mp (ltOf iy) t 0 n d4):=by
         obtain ⟨h1,h2,h3,h4⟩:=HW.out;exact ae ⟨permIn_trans _ _ _ _ _ h2 (permIn_mono _ _ _ _ _ _ (Nat.zero_le _) (Nat.le_refl _) (by rw [h2.1,HN.out];exact Nat.le_refl _) hmg.1),h3.last h1 han2 hcn hmg⟩
        have S5:Aside (SWK bQ 3 w0 blk off d4 w3):=hs4;have hgo:n - t<n - bs:=by omega
        clear hmg hs4 HCS HW HCA HL HR HDV q3;go_wp2;go_roundg (n - t)
        case measure=>omega
        case rel=>exact ⟨t,d4,rfl,by omega,by omega,Nat.le_refl _,S5,hrel4⟩
       ·have hltz4:¬ (m:Int)<(n:Int):=by omega
        have hcn:n<a2+t:=by omega
        have hrel4:Hid (PermIn 0 n d dk3/\mp (ltOf iy) t 0 n dk3):=by
         obtain ⟨h1,h2,h3,h4⟩:=HW.out;have hl2:SortedIn (ltOf iy) a2 n dk3:=by have h:=HL.out;rw [Nat.min_eq_right (by omega)] at h;exact h
         exact ae ⟨h2,h3.last h1 han2 hcn ⟨permIn_refl _ _ _,hl2⟩⟩
        have hgo:n - t<n - bs:=by omega
        clear hm hca hdsz hdsa HW HCA HL HR HDV;go_wp2;go_roundg (n - t)
        case measure=>omega
        case rel=>exact ⟨t,dk3,rfl,by omega,by omega,Nat.le_refl _,S4,hrel4⟩
    ·have hltz2:¬ (bs:Int)<(n:Int):=by omega
     have HF:Hid (kq (ltOf iy) 0 n d dk2):=ae ⟨HW.out.1,by have h:=HW.out.2 0 ⟨0,rfl⟩ (Nat.le_refl _);rw [Nat.min_eq_right (by omega)] at h;exact h⟩;go_wp2;go_end0;exact ⟨rfl,dk2,HF.out,S3.out⟩
end
def dj (w:World) (v:Value) (L:List Nat):Prop :=
 ∃ (a:Option Addr) (c:Nat),v=.slice a L.length c/\(L.length<=c/\(a=none->c=0))/\L.length<=10000/\(∀ c∈L,aB 152 c) /\
  ∀ i (h:i<L.length),∃ b o,a=some ⟨b,o,none⟩/\w.rangeAt b (o+i*3) (aU L[i])
theorem f_ {w w':World} {b o:Nat} {cs:List Value} (h:w.rangeAt b o cs) (hk:af w w'):w'.rangeAt b o cs:=fun j v hj=>hk.cell (h j v hj)
theorem dj.kept {w w':World} {v:Value} {L:List Nat} (h:dj w v L) (hk:af w w'):dj w' v L:=by
 obtain ⟨a,c,h1,h2,h3,h4,h5⟩:=h;exact ⟨a,c,h1,h2,h3,h4,fun i hi=>let ⟨b,o,h6,h7⟩:=h5 i hi;⟨b,o,h6,f_ h7 hk⟩⟩
def aM (w:World) (B:Nat) (v:Value) (L:List Nat):Prop :=
 w.ownsRow B 99 3 v L.length (L.flatMap aU)/\L.length<=10000/\∀ c∈L,aB 152 c
theorem aM.kept {w w':World} {B:Nat} {v:Value} {L:List Nat} (h:aM w B v L) (hk:af w w'):aM w' B v L:=⟨fH h.1 hk,h.2⟩
theorem aM.mono {w:World} {B B':Nat} {v:Value} {L:List Nat} (h:aM w B v L) (hb:B'<=B):aM w B' v L:=⟨jr h.1 hb,h.2⟩
theorem aM.nil (w:World) (B:Nat):aM w B (.slice none 0 0) []:=⟨World.ownsRow_nil _ _ _ _,by simp,by simp⟩
theorem lC (L:List Nat):(L.flatMap aU).length=L.length*3:=by
 induction L with
 | nil=>rfl
 | cons c L ih=>simp [aU,ih];omega
theorem pp (L:List Nat):∀ i (h:i<L.length) j,j<3->(L.flatMap aU)[i*3+j]?=(aU L[i])[j]?:=by
 induction L with
 | nil=>intro i h;simp at h
 | cons c L ih =>
  intro i h j hj;rw [List.flatMap_cons];cases i with
  | zero=>rw [List.getElem?_append_left (by simp [aU];omega)];simp
  | succ i =>
   rw [List.getElem?_append_right (by simp [aU];omega),show (aU c).length=3 from rfl,show (i+1)*3+j - 3=i*3+j by omega];exact ih i (by simpa using h) j hj
theorem aM.at {w:World} {B:Nat} {v:Value} {L:List Nat} (h:aM w B v L):dj w v L:=by
 obtain ⟨⟨h1,h2⟩,h3,h4⟩:=h;rcases h2 with ⟨rfl,h6⟩ | ⟨g,cap,cur,rfl,h6,h7,h8,h9,h10,h11⟩
 ·have:L=[]:=List.eq_nil_of_length_eq_zero h6
  subst this;exact ⟨none,0,rfl,⟨by simp,fun _=>rfl⟩,by simp,by simp,fun i h=>by simp at h⟩
 ·refine ⟨some ⟨g,0,none⟩,cap,rfl,⟨h8,fun h=>by cases h⟩,h3,h4,fun i hi=>⟨g,0,rfl,fun j u hj=>?_⟩⟩
  have hj3:j<3:=by
   have:=(List.getElem?_eq_some_iff.1 hj).1;simpa [aU] using this
  have e1:(cur.toList.take (L.length*3))[i*3+j]?=(L.flatMap aU)[i*3+j]?:=by rw [h11]
  rw [List.getElem?_take_of_lt (by omega),pp L i hi j hj3,hj] at e1;simp only [World.cell?,h7,Nat.zero_add];simpa using e1
theorem dj.shape {w:World} {v:Value} {L:List Nat} (h:dj w v L):∃ a c,v=.slice a L.length c:=by
 obtain ⟨a,c,h,_⟩:=h;exact ⟨a,c,h⟩
def gj (c:Nat) (r:Int):Prop:=(∀ j,c.testBit (24+j)=true->(j:Int)<=r)/\(r=-1\/∃ i:Nat,r=i/\c.testBit (24+i)=true)
def fx (L:List Nat) (r:Int):Prop:=(∀ c∈L,∀ j,c.testBit (24+j)=true->(j:Int)<=r)/\(r=-1\/∃ i:Nat,r=i/\∃ c∈L,c.testBit (24+i)=true)
theorem kZ {x:Nat} (h:x<18446744073709551616) (h0:x≠0):∃ n,Lib.bitLen x=n+1/\n<64/\x.testBit n=true/\∀ j,x.testBit j=true->j<=n:=by
 obtain ⟨h1,h2,h3⟩:=Lib.bitLenAux_bounds 64 x h h0;have h4:=Lib.bitLen_le x 64 (by omega) h;unfold Lib.bitLen at *;obtain ⟨n,hn⟩:∃ n,Lib.bitLenAux 64 x=n+1:=⟨Lib.bitLenAux 64 x - 1,by omega⟩;rw [hn] at h2 h3 h4;refine ⟨n,hn,by omega,?_,fun j hj=>?_⟩
 ·have h2':2^n<=x:=h2;obtain ⟨i,hi,hb⟩:=Nat.exists_ge_and_testBit_of_ge_two_pow h2';by_cases e:i=n
  ·subst e;exact hb
  ·rw [Nat.testBit_lt_two_pow (Nat.lt_of_lt_of_le h3 (Nat.pow_le_pow_right (by omega) (by omega)))] at hb;cases hb
 ·apply Nat.le_of_not_lt;intro hlt;rw [Nat.testBit_lt_two_pow (Nat.lt_of_lt_of_le h3 (Nat.pow_le_pow_right (by omega) (by omega)))] at hj;cases hj
theorem xX {c n:Nat} (h1:(b_ c).testBit n=true) (h2:∀ j,(b_ c).testBit j=true->j<=n):gj c ((64+n:Nat):Int):=by
 refine ⟨fun j hj=>?_,.inr ⟨64+n,rfl,by rw [bW] at h1;rw [show 24+(64+n)=88+n by omega];exact h1⟩⟩;by_cases c1:j<64
 ·omega
 ·have:=h2 (j - 64) (by rw [bW,show 88+(j - 64)=24+j by omega];exact hj);omega
theorem xY {c n:Nat} (h0:b_ c=0) (h1:(cr c).testBit n=true) (h2:∀ j,(cr c).testBit j=true->j<=n):gj c (n:Int):=by
 have hn:n<64:=by rw [bX] at h1;simp at h1;exact h1.1
 refine ⟨fun j hj=>?_,.inr ⟨n,rfl,by rw [bX] at h1;simp at h1;exact h1.2⟩⟩;by_cases c1:j<64
 ·have:=h2 j (by rw [bX];simp [c1,hj]);omega
 ·have h3:(b_ c).testBit (j - 64)=true:=by rw [bW,show 88+(j - 64)=24+j by omega];exact hj
  rw [h0] at h3;simp at h3
theorem sH {c:Nat} (h0:b_ c=0) (h1:cr c=0):gj c (-1):=by
 refine ⟨fun j hj=>?_,.inl rfl⟩
 exfalso
 by_cases c1:j<64
 ·have h3:(cr c).testBit j=true:=by rw [bX];simp [c1,hj]
  rw [h1] at h3;simp at h3
 ·have h3:(b_ c).testBit (j - 64)=true:=by rw [bW,show 88+(j - 64)=24+j by omega];exact hj
  rw [h0] at h3;simp at h3
theorem fx.snoc {L:List Nat} {c:Nat} {r s:Int} (h:fx L r) (hc:gj c s):fx (L++[c]) (max r s):=by
 obtain ⟨h1,h2⟩:=h;obtain ⟨h3,h4⟩:=hc;refine ⟨fun x hx j hj=>?_,?_⟩
 ·rcases List.mem_append.1 hx with hx | hx
  ·have:=h1 x hx j hj;omega
  ·simp at hx;subst hx;have:=h3 j hj;omega
 ·by_cases e:r<=s
  ·rw [show max r s=s by omega];rcases h4 with h4 | ⟨i,h4,h5⟩
   ·exact .inl h4
   ·exact .inr ⟨i,h4,c,by simp,h5⟩
  ·rw [show max r s=r by omega];rcases h2 with h2 | ⟨i,h2,x,hx,h5⟩
   ·exact .inl h2
   ·exact .inr ⟨i,h2,x,List.mem_append.2 (.inl hx),h5⟩
theorem fx.nil:fx [] (-1):=⟨fun c h=>by simp at h,.inl rfl⟩
theorem nZ (v:Value) (L:List Nat) (w:World) (hv:dj w v L):Calls Tryz.prog 126 #[v] w fun e w'=>(∃ r:Int,e=.returned (.int .i64 r)/\fx L r)/\af w w':=by
 have HV:=ae hv;obtain ⟨sa,sc,hs,_,hl9,_⟩:=hv;subst hs;obtain ⟨n,hn⟩:∃ n,n=L.length:=⟨_,rfl⟩;have HN:=ae hn;rw [<-hn] at hl9⊢;have HV2:Hid (dj w (.slice sa n sc) L):=ae (by rw [hn];exact HV.out);clear hn HV;go_enter Tryz.func126,Tryz.ntmps126;go_wp2;go_loopg [3,9] n (fun kx s3 s9 wr=>∃ (k:Nat) (r:Int),s3=.int .i64 r/\s9=.int .i64 k/\k<=n/\n - k<=kx/\-1<=r/\r<=1000/\Hid (fx (L.take k) r)/\Hid (af w wr))
 case atStart=>exact ⟨0,-1,rfl,rfl,Nat.zero_le _,by omega,by omega,by omega,ae fx.nil,ae (af.refl _)⟩
 case round =>
  obtain ⟨k,r,rfl,rfl,hk,hkx,hr0,hr9,HG,HK⟩:=hrel;by_cases hlt:k<n
  ·have hkl:k<L.length:=by have:=HN.out;omega
   obtain ⟨b,o,rfl,hrg⟩:∃ b o,sa=some ⟨b,o,none⟩/\wr.rangeAt b (o+k*3) (aU L[k]):=by
    obtain ⟨a',c',h1,_,_,_,h5⟩:=HV2.out.kept HK.out;injection h1 with h1 h2 h3
    subst h1;exact h5 k hkl
   have hc152:aB 152 L[k]:=by obtain ⟨_,_,_,_,_,h4,_⟩:=HV2.out;exact h4 _ (List.getElem_mem _)
   have HS:Hid (∀ s,gj L[k] s->fx (L.take (k+1)) (max r s)):=ae fun s hs=>by
    rw [List.take_succ_eq_append_getElem hkl];exact HG.out.snoc hs
   have hlo:=fU L[k];have hhi:=gw hc152;have HT1:Hid (∀ m,(b_ L[k]).testBit m=true->(∀ j,(b_ L[k]).testBit j=true->j<=m)->gj L[k] ((64+m:Nat):Int)):=ae fun m h1 h2=>xX h1 h2
   have HT2:Hid (∀ m,b_ L[k]=0->(cr L[k]).testBit m=true->(∀ j,(cr L[k]).testBit j=true->j<=m)->gj L[k] (m:Int)):=ae fun m h0 h1 h2=>xY h0 h1 h2
   have HT3:Hid (b_ L[k]=0->cr L[k]=0->gj L[k] (-1)):=ae fun h0 h1=>sH h0 h1
   have HLEN:Hid (∀ x W,x<18446744073709551616->Calls Tryz.prog 183 #[.int .u64 (x:Nat)] W fun e w'=>e=.returned (.int .i64 (Lib.bitLen x))/\W=w'):=ae fun x W h=>(Tryz.bits_Len64 (x:Int) W (by omega) (by omega)).mono fun _ _ h=>⟨by rw [h.1];simp,h.2.symm⟩
   unfold aU at hrg;generalize aZ L[k]=ev at hrg;generalize b_ L[k]=hi at hrg hhi HT1 HT2 HT3;generalize cr L[k]=lo at hrg hlo HT1 HT2 HT3;have HRG:=ae hrg;clear hrg;go_wp2_with (with_reducible refine wpList_load_mid rfl 99 _ rfl b (o+k*3) rfl _ _ HRG.out Tryz.underlying99 rfl (by kernel_rfl) ?_);have HRN:=HN.out;by_cases hhi0:hi=0
   ·have b1:((hi:Int) != 0)=false:=by simp [hhi0]
    by_cases hlo0:lo=0
    ·have b2:((lo:Int) != 0)=false:=by simp [hlo0]
     have HF:Hid (fx (L.take (k+1)) r):=ae (by have h:=HS.out _ (HT3.out hhi0 hlo0);rw [show max r (-1)=r by omega] at h;exact h);clear hhi0 hlo0 HRN;refine wp_loop_rounds 3 ?_;rw [rounds_succ];go_wp2;rw [rounds_succ];go_wp2;rw [rounds_succ];go_wp2;go_roundg (n - (k+1))
     case measure=>omega
     case rel=>exact ⟨k+1,r,rfl,by go_num,by omega,Nat.le_refl _,hr0,hr9,HF,ae (HK.out.alloc _)⟩
    ·have b2:((lo:Int) != 0)=true:=by simp;omega
     obtain ⟨m,hm1,hm2,hm3,hm4⟩:=kZ hlo hlo0;have HC:=ae (fun W=>HLEN.out lo W hlo);rw [hm1] at HC;have HF:Hid (fx (L.take (k+1)) (max r m)):=ae (HS.out _ (HT2.out m hhi0 hm3 hm4));obtain ⟨m1,hm⟩:∃ x,x=m+1:=⟨_,rfl⟩;rw [<-hm] at HC;have q1:(m1:Int) - 1=(m:Int):=by omega
     have hm9:m1<=64:=by omega
     clear hhi0 hlo0 HRN hm1 hm3 hm4 hm;refine wp_loop_rounds 2 ?_;rw [rounds_succ];go_wp2;rw [rounds_succ];go_wp2_with (go_at_call 183;refine (HC.out _).mono ?_;rintro e w2 ⟨rfl,rfl⟩);go_roundg (n - (k+1))
     case measure=>omega
     case rel=>exact ⟨k+1,max r m,rfl,by go_num,by omega,Nat.le_refl _,by omega,by omega,HF,ae (HK.out.alloc _)⟩
   ·have b1:((hi:Int) != 0)=true:=by simp;omega
    obtain ⟨m,hm1,hm2,hm3,hm4⟩:=kZ hhi hhi0;have HC:=ae (fun W=>HLEN.out hi W hhi);rw [hm1] at HC;obtain ⟨z,hz⟩:∃ z,z=64+m:=⟨_,rfl⟩;have HF:Hid (fx (L.take (k+1)) (max r z)):=ae (by rw [hz];exact HS.out _ (HT1.out m hm3 hm4));obtain ⟨m1,hm⟩:∃ x,x=m+1:=⟨_,rfl⟩;rw [<-hm] at HC;have q1:(64:Int)+(m1:Int) - 1=(z:Int):=by omega
    have hz9:z<=1000:=by omega
    have hm9:m1<=64:=by omega
    clear hhi0 HRN hm1 hm3 hm4 hm hz;refine wp_loop_rounds 1 ?_;rw [rounds_succ];go_wp2_with (go_at_call 183;refine (HC.out _).mono ?_;rintro e w2 ⟨rfl,rfl⟩);go_roundg (n - (k+1))
    case measure=>omega
    case rel=>exact ⟨k+1,max r z,rfl,by go_num,by omega,Nat.le_refl _,by omega,by omega,HF,ae (HK.out.alloc _)⟩
  ·have hke:k=n:=by omega
   have HF:Hid (fx L r):=ae (by have h:=HG.out;rw [hke,HN.out,List.take_length] at h;exact h);go_wp2;go_ret;exact ⟨⟨_,rfl,HF.out⟩,HK.out⟩
section
open Go.Shelf Go.RowKit Go.Lib Go.Sort
theorem qG (p:Option Addr) (cap:Nat) (fv:Value) (w:World):Calls Tryz.prog 240 #[.slice p 0 cap,.int .i64 0,fv] w fun e w'=>e=.returned (.tuple #[])/\w=w':=by
 have HI:Hid (∀ W,Calls Tryz.prog 260 #[.slice p 0 cap,.int .i64 0,.int .i64 0,fv] W fun e w'=>e=.returned (.tuple #[])/\W=w'):=ae fun W=>(AnyF.insertionSortCmpFunc_none tm p cap fv W).mono fun _ _ h=>⟨h.1,h.2.symm⟩
 go_enter Tryz.func240,Tryz.ntmps240;go_wp2;refine wp_loop_rounds 1 ?_;rw [rounds_succ];go_wp2_with (go_at_call 260;refine (HI.out _).mono ?_;rintro e w2 ⟨rfl,rfl⟩);refine wp_loop_rounds 1 ?_;rw [rounds_succ];go_wp2;go_end0;exact ⟨rfl,rfl⟩
theorem tV (L:List Nat):∀ i (h:i<L.length) j,j<3->(L.flatMap bQ)[i*3+j]?=(bQ L[i])[j]?:=by
 induction L with
 | nil=>intro i h;simp at h
 | cons c L ih =>
  intro i h j hj;rw [List.flatMap_cons];cases i with
  | zero=>rw [List.getElem?_append_left (by simp [bQ,aU];omega)];simp
  | succ i =>
   rw [List.getElem?_append_right (by simp [bQ,aU];omega),show (bQ c).length=3 from rfl,show (i+1)*3+j - 3=i*3+j by omega];exact ih i (by simpa using h) j hj
theorem uj (L:List Nat):(L.flatMap bQ).length=L.length*3:=by
 induction L with
 | nil=>rfl
 | cons c L ih=>simp [bQ,aU,ih];omega
theorem lv (L:List Nat):(flatK bQ 3 L.toArray).toList=L.flatMap bQ:=by
 apply List.ext_getElem?;intro t;by_cases h:t<L.length*3
 ·have hi:t / 3<L.length:=by omega
  have e:=tV L (t / 3) hi (t % 3) (by omega);rw [show t / 3*3+t % 3=t by omega] at e;rw [e];have e2:(flatK bQ 3 L.toArray)[t]! = (bQ L.toArray[t / 3]!)[t % 3]!:=get_flatK bQ 3 L.toArray t (by simpa using h)
  have e3:(flatK bQ 3 L.toArray).toList[t]?=some (flatK bQ 3 L.toArray)[t]!:=by
   have hs:t<(flatK bQ 3 L.toArray).size:=by rw [size_flatK];simpa using h
   rw [Array.getElem?_toList,Array.getElem?_eq_getElem hs,getElem!_pos _ t hs]
  rw [e3,e2];have e4:L.toArray[t / 3]! = L[t / 3]:=by rw [getElem!_pos _ _ (by simpa using hi)];simp
  rw [e4];have h3:t % 3<(bQ L[t / 3]).length:=by show t % 3<3;omega
  rw [List.getElem?_eq_getElem h3,getElem!_pos (bQ L[t / 3]) (t % 3) h3]
 ·rw [List.getElem?_eq_none (by rw [Array.length_toList,size_flatK];simp;omega),List.getElem?_eq_none (by rw [uj];omega)]
theorem mP {L:List Nat} (h:∀ c∈L,aB 152 c):L.flatMap bQ=L.flatMap aU:=by
 induction L with
 | nil=>rfl
 | cons c L ih =>
  rw [List.flatMap_cons,List.flatMap_cons,ih fun x hx=>h x (List.mem_cons_of_mem _ hx)];unfold bQ;rw [n_ (h c (List.mem_cons_self ..))]
theorem oL (B:Nat) (v:Value) (L:List Nat) (w:World) (hv:aM w B v L) (hB:B<=w.heap.size) :
  Calls Tryz.prog 240 #[v,.int .i64 L.length,.func (.func 188) #[] #[]] w fun e w'=>e=.returned (.tuple #[])/\∃ M:List Nat,M.Perm L/\M.Pairwise (fun a b=>pc a<=pc b)/\aM w' B v M/\Below B w w':=by
 obtain ⟨hv1,hv2,hv3⟩:=hv;by_cases h0:L=[]
 ·subst h0;have hv4:=hv1;obtain ⟨_,h2⟩:=hv1
  have:∃ p c,v=.slice p 0 c:=by
   rcases h2 with ⟨h2,_⟩ | ⟨g,cap,cur,h2,_⟩
   ·exact ⟨_,_,h2⟩
   ·exact ⟨_,cap,by simpa using h2⟩
  obtain ⟨p,c,rfl⟩:=this;exact (qG p c _ w).mono fun e w' ⟨h3,h4⟩=>⟨h3,[],.refl _,by simp,by subst h4;exact ⟨hv4,by simp,by simp⟩,by subst h4;exact Below.refl _ _⟩
 ·obtain ⟨h1,h2⟩:=hv1;rcases h2 with ⟨_,h2⟩ | ⟨g,cap,cur,rfl,hg,hh,hn,hcap,hsz,htk⟩
  ·exact absurd (List.eq_nil_of_length_eq_zero h2) h0
  ·have hH:HoldsK bQ 3 w g 0 L.toArray:=by
    intro j hj;have hj':j<L.length*3:=by rw [size_flatK] at hj;simpa using hj
    refine ⟨?_,by simp [World.frozen?,hh]⟩;have e1:(cur.toList.take (L.length*3))[j]?=(L.flatMap aU)[j]?:=by rw [htk]
    rw [List.getElem?_take_of_lt (by omega),<-mP hv3,<-lv] at e1;simp only [World.cell?,hh,Nat.zero_add];rw [show cur[j]?=cur.toList[j]? from by simp];simp only [Option.isSome_none,Bool.false_eq_true,if_false];rw [e1,Array.getElem?_toList,Array.getElem?_eq_getElem hj,getElem!_pos _ j hj];rfl
   have hS:=sA g 0 cap L.toArray w hH (jh hh) (by simp;omega);simp only [List.size_toArray] at hS;refine hS.mono fun e w' ⟨h3,dn,hm,n,os,h4⟩=>⟨h3,dn.toList,?_⟩
   clear hS h3;obtain ⟨⟨hp1,hp2,hp3⟩,hs⟩:=hm;have hdn:dn.size=L.length:=by simpa using hp1
   have hperm:dn.toList.Perm L:=by
    have e1:dn.extract 0 L.length=dn:=by rw [<-hdn];simp
    have e2:L.toArray.extract 0 L.length=L.toArray:=by simp
    rw [e1,e2] at hp3;simpa using hp3
   have hlt:∀ c∈dn.toList,aB 152 c:=fun c hc=>hv3 c (hperm.mem_iff.1 hc)
   refine ⟨hperm,?_,?_,?_⟩
   ·rw [List.pairwise_iff_getElem];intro i j hi hj hij;have hi':i<dn.size:=by simpa using hi
    have hj':j<dn.size:=by simpa using hj
    have h:=hs i j (Nat.zero_le _) hij (by omega);rw [AO] at h;simp at h;rw [getElem!_pos dn i hi',getElem!_pos dn j hj',n_ (hlt _ (by simp)),n_ (hlt _ (by simp))] at h;simpa using h
   ·subst h4;have hg1:=gr (id:Value->Value) w n g 0 (flatK bQ 3 dn) hh;have hps:=fw (id:Value->Value) (flatK bQ 3 dn) cur (L.length*3) (by rw [size_flatK,hdn]) (by rw [hsz];exact Nat.mul_le_mul_right 3 hn);refine ⟨⟨by rw [lC],.inr ⟨g,cap,putCells id 0 (flatK bQ 3 dn) cur,by simp [hdn],hg,?_,by simp [hdn];exact hn,hcap,by rw [hps.1];exact hsz,?_⟩⟩,by simp;omega,hlt⟩
    ·show (grow (putRow id (Sort.ahead w n) g 0 (flatK bQ 3 dn)) os).heap[g]?=_;rw [heap_grow_old _ _ (jh hg1)];exact hg1
    ·have:=hps.2;rw [show dn.toList.length*3=L.length*3 by simp [hdn],this,<-mP hlt];have e:=lv dn.toList;simp only [Array.toArray_toList] at e;rw [e];simp
   ·subst h4;refine ⟨rfl,rfl,rfl,?_,fun k hk=>?_⟩
    ·show w.heap.size<=((w.heap.modify g _)++os).size;simp
    ·have hkg:k≠g:=by omega
     show (grow (putRow id (Sort.ahead w n) g 0 (flatK bQ 3 dn)) os).heap[k]?=_;rw [heap_grow_old _ _ (by show k<(w.heap.modify g _).size;simp;omega)];exact eT (id:Value->Value) w n g 0 k _ hkg
theorem mg (B:Nat) (v:Value) (L:List Nat) (w:World) (hv:aM w B v L) (hB:B<=w.heap.size) :
  Calls Tryz.prog 187 #[v,.func (.func 188) #[] #[]] w fun e w'=>e=.returned (.tuple #[])/\∃ M:List Nat,M.Perm L/\M.Pairwise (fun a b=>pc a<=pc b)/\aM w' B v M/\Below B w w':=by
 have HC:=ae (oL B v L w hv hB);obtain ⟨a,c,rfl⟩:=hv.at.shape;have hl:=hv.2.1;obtain ⟨n,hn⟩:∃ n,n=L.length:=⟨_,rfl⟩;rw [<-hn] at hl HC⊢;clear hv hn;go_enter Tryz.func187,Tryz.ntmps187;go_wp2_with (go_at_call 240;refine HC.out.mono ?_;rintro e w2 ⟨rfl,M,h1,h2,h3,h4⟩);go_end0;exact ⟨rfl,M,h1,h2,h3,h4⟩
end
theorem pw:(Tryz.prog.info? 99).map (fun i=>(i.zero,i.size,i.bytes))=some (some (.agg #[.int .i64 0,.int .u64 0,.int .u64 0]),3,24):=by kernel_rfl
def vw (L:List Nat) (c:Nat):List Nat:=if L.length<=4096 then L++[c] else L
def ListAt (w:World) (gl B:Nat) (v:Value) (L:List Nat):Prop:=ai w gl 144 [v]/\aM w B v L
structure dE (gl:Nat) (v v':Value) (w w':World):Prop where
 os:w'.os=w.os
 tape:w'.tape=w.tape
 output:w'.output=w.output
 size:w.heap.size<=w'.heap.size
 block:∀ k,k<w.heap.size->k≠gl->some k≠v.ownBlock->w'.heap[k]?=w.heap[k]?
 own:v'.ownBlock=v.ownBlock\/∀ g,v'.ownBlock=some g->w.heap.size<=g
theorem dE.of_kept {gl:Nat} {v:Value} {w w':World} (h:af w w'):dE gl v v w w':=⟨h.os,h.tape,h.output,h.size,fun k hk _ _=>h.block k hk,.inl rfl⟩
theorem dE.trans {gl:Nat} {v v1 v2:Value} {w w1 w2:World} (h:dE gl v v1 w w1) (k:dE gl v1 v2 w1 w2):dE gl v v2 w w2:=by
 have hs:=h.size;refine ⟨k.os.trans h.os,k.tape.trans h.tape,k.output.trans h.output,Nat.le_trans h.size k.size,fun b hb h1 h2=>?_,?_⟩
 ·refine (k.block b (by omega) h1 fun e=>?_).trans (h.block b hb h1 h2);rcases h.own with ho | ho
  ·rw [ho] at e;exact h2 e
  ·have:=ho b e.symm;omega
 ·rcases k.own with ko | ko
  ·rw [ko];exact h.own
  ·exact .inr fun g hg=>by have:=ko g hg;omega
theorem aM.own_ge {w:World} {B:Nat} {v:Value} {L:List Nat} (h:aM w B v L) {g:Nat} (hg:v.ownBlock=some g):B<=g/\g<w.heap.size:=h.1.lt g hg
theorem dE.below {gl B:Nat} {v v':Value} {w w':World} {L:List Nat} (h:dE gl v v' w w') (hv:aM w B v L) (hB:B<=gl) (hl:B<=w.heap.size):Below B w w' :=
 ⟨h.os,h.tape,h.output,h.size,fun k hk=>h.block k (by omega) (by omega) fun e=>by have:=(hv.own_ge e.symm).1;omega⟩
theorem dE.cell {gl:Nat} {v v':Value} {w w':World} (h:dE gl v v' w w') {b o:Nat} {u:Value} (hb:b<w.heap.size) (h1:b≠gl) (h2:some b≠v.ownBlock) (hc:w.cell? ⟨b,o,none⟩=some u):w'.cell? ⟨b,o,none⟩=some u:=by
 have:=h.block b hb h1 h2;simp only [World.cell?,this] at hc⊢;exact hc
theorem rB (w:World) (C O:Obj):((w.alloc C).alloc O).drew.heap[w.heap.size+1]?=some O:=by
 refine (Below.block (af.refl ((w.alloc C).alloc O)).drew (w.heap.size+1) (by simp)).trans ?_;simpa using heap_alloc_new (w.alloc C) O
theorem iN {w:World} {gl B:Nat} {v:Value} {L:List Nat} {cs:List Value} (h:aM w B v L) (hx:ai w gl 144 cs):some gl≠v.ownBlock:=by
 obtain ⟨⟨_,h2⟩,_⟩:=h;obtain ⟨cur,hx1,_⟩:=hx;intro e;rcases h2 with ⟨rfl,_⟩ | ⟨g,cap,cur2,rfl,_,h7,_⟩
 ·cases e
 ·have:gl=g:=by simpa [Value.ownBlock] using e
  subst this;rw [hx1] at h7;injection h7 with h7
  injection h7 with _ h8 _
  exact absurd h8 (by decide)
theorem aM.store_other {w:World} {B g:Nat} {v:Value} {L:List Nat} (h:aM w B v L) (hg:some g≠v.ownBlock) (i:Nat) (u:Value):aM (w.setCell ⟨g,i,none⟩ u) B v L:=by
 obtain ⟨⟨h1,h2⟩,h3⟩:=h;refine ⟨⟨h1,h2.imp id ?_⟩,h3⟩;rintro ⟨b,cap,cur,rfl,h5,h6,h7⟩;refine ⟨b,cap,cur,rfl,h5,?_,h7⟩;have hne:b≠g:=fun e=>hg (by simp [Value.ownBlock,e])
 exact (Below.heap_setCell w ⟨g,i,none⟩ u b hne).trans h6
theorem vz {W w5:World} {gl B n cap gg c:Nat} {L:List Nat} {v:Value} {C O:Obj} (hr:ai W gl 144 [v]) (hv:aM W B v L) (hB:B<=gl) (hc:aB 152 c) (hl:L.length<=4097) (hn:n=L.length)
  (hown:w5.ownsRow B 99 3 (.slice (some ⟨gg,0,none⟩) (n+1) cap) (n+1) (L.flatMap aU++aU c)) (hg:((W.alloc C).alloc O).drew.grownBy w5 v.ownBlock) (hat:v.ownBlock=some gg\/gg=W.heap.size+1+1) :
  ListAt (w5.setCell ⟨gl,0,none⟩ (.slice (some ⟨gg,0,none⟩) (n+1) cap)) gl B (.slice (some ⟨gg,0,none⟩) (n+1) cap) (L++[c])/\dE gl v (.slice (some ⟨gg,0,none⟩) (n+1) cap) W (w5.setCell ⟨gl,0,none⟩ (.slice (some ⟨gg,0,none⟩) (n+1) cap)):=by
 have hgl:=hr.lt;have k1:af W ((W.alloc C).alloc O).drew:=(((af.refl W).alloc C).alloc O).drew;have hb:w5.heap[gl]?=W.heap[gl]?:=(hg.block gl (by simp;omega) (iN hv hr)).trans (k1.block gl hgl);have hr5:=hr.same hb
 have hv5:aM w5 B (.slice (some ⟨gg,0,none⟩) (n+1) cap) (L++[c]):=by
  refine ⟨by rw [List.flatMap_append,List.flatMap_cons,List.flatMap_nil,List.append_nil,List.length_append,List.length_singleton,<-hn];exact hown,by simp;omega,fun x hx=>?_⟩;rcases List.mem_append.1 hx with hx | hx
  ·exact hv.2.2 x hx
  ·simp at hx;subst hx;exact hc
 have hne5:=iN hv5 hr5;refine ⟨⟨?_,hv5.store_other hne5 0 _⟩,?_⟩
 ·have:=hr5.store 0 (.slice (some ⟨gg,0,none⟩) (n+1) cap);simpa using this
 ·have h2:Below B ((W.alloc C).alloc O).drew w5:=aW hg (hv.kept k1).1 (by simp;omega);have h3:Below B W (w5.setCell ⟨gl,0,none⟩ (.slice (some ⟨gg,0,none⟩) (n+1) cap)):=Below.setCell ((k1.mono (by omega)).trans h2) hB _;refine ⟨h3.os,h3.tape,h3.output,h3.size,fun k hk e1 e2=>?_,?_⟩
  ·exact (Below.heap_setCell w5 ⟨gl,0,none⟩ _ k e1).trans ((hg.block k (by simp;omega) e2).trans (k1.block k hk))
  ·rcases hat with h | h
   ·exact .inl h.symm
   ·refine .inr fun g hg'=>?_
    have:gg=g:=by simpa [Value.ownBlock] using hg'
    omega
theorem iW (gl B c:Nat) (v:Value) (L:List Nat) (W:World) (hL:ListAt W gl B v L) (hc:aB 152 c) (hl:L.length<=4097) (hB:B<=gl) :
  Calls Tryz.prog 129 #[.pointer (some ⟨gl,0,none⟩),cP c] W fun e w'=>e=.returned (.tuple #[])/\∃ v',ListAt w' gl B v' (vw L c)/\dE gl v v' W w':=by
 obtain ⟨hr,hv⟩:=hL;have hgl:=hr.lt;have c0:=hr.cell (i:=0) (by simp);have f0:=hr.free 0;simp only [List.getElem_cons_zero] at c0;have hne:=iN hv hr;obtain ⟨a,cp,hv2⟩:=hv.at.shape;obtain ⟨n,hn⟩:∃ n,n=L.length:=⟨_,rfl⟩;unfold vw;rw [<-hn] at hv2 hl⊢;subst hv2;have HR:=ae hr;have HV:=ae hv;have HNE:=ae hne;have HN:=ae hn;unfold cP;have HC:Hid (aB 152 c):=hc;have HCC:Hid (aU c=[.int .i64 (aZ c),.int .u64 (cr c),.int .u64 (b_ c)]):=rfl;generalize aZ c=x0 at *;generalize cr c=x1 at *;generalize b_ c=x2 at *;clear hr hv hne hn hc;by_cases h:n<=4096
 ·rw [if_pos h];have h':(n:Int)<=4096:=by omega
  obtain ⟨i0,hi0,hz0,hz1,hz2⟩:=info_parts pw;have I0:=ae hi0;have I1:=ae hz0;have I2:=ae hz1;have I3:=ae hz2;clear hi0 hz0 hz1 hz2 h
  have HO2:Hid (∀ C O,(((W.alloc C).alloc O).drew).ownsRow B 99 3 (.slice a n cp) n (L.flatMap aU)):=ae fun C O=>by
   have h:=(HV.out.kept ((((af.refl W).alloc C).alloc O).drew)).1;rw [<-HN.out] at h;exact h
  have cA:∀ C,(W.alloc C).drew.cell? ⟨gl,0,none⟩=some (.slice a n cp):=fun C=>(((af.refl W).alloc C).drew).cell c0
  have cB:∀ C O,((W.alloc C).alloc O).drew.cell? ⟨gl,0,none⟩=some (.slice a n cp):=fun C O=>((((af.refl W).alloc C).alloc O).drew).cell c0
  go_enter Tryz.func129,Tryz.ntmps129;go_wp2;go_region_law ((refine step_append_lies _ (by rfl) _ _ _ (by rfl) B 99 i0 _ 3 24 Tryz.underlying144 I0.out I1.out I2.out I3.out rfl (by omega) (.slice a n cp) n _ (by rfl) (HO2.out _ _) ⟨W.heap.size+1,0,none⟩ 1 1 [.int .i64 x0,.int .u64 x1,.int .u64 x2] (by rfl) (by rfl) (World.news_of_block (cs:=#[.int .i64 x0,.int .u64 x1,.int .u64 x2]) (t:=99) (fr:=(0,0)) (rB W _ _)) (by simp [Value.oneCell']) (by omega) (by unfold maxLen;omega) (by omega) (by simp;omega) (W.heap.size+1+1) (by simp) ?_;intro gg cap w5 hown5 hgrow hat hlt5;have st5:=hgrow.cell (a:=⟨gl,0,none⟩) (v:=.slice a n cp) (cB _ _) HNE.out;have sf5:=(World.frozen?_of_block (a:=⟨gl,0,none⟩) (hgrow.block gl (by simp;omega) HNE.out)).trans ((Below.frozen ((((af.refl W).alloc _).alloc _).drew) (p:=⟨gl,0,none⟩) (by simp;omega)).trans f0)));all_goals go_wp2
  all_goals
   have hs:=vz HR.out HV.out hB HC.out (by have:=HN.out;omega) HN.out (c:=c) (by rw [HCC.out];exact hown5) hgrow hat;go_end0;exact ⟨rfl,_,hs⟩
 ·rw [if_neg h];have h':¬ (n:Int)<=4096:=by omega
  go_enter Tryz.func129,Tryz.ntmps129;go_wp2;go_end0;exact ⟨rfl,_,⟨HR.out.kept ((af.refl _).alloc _),HV.out.kept ((af.refl _).alloc _)⟩,dE.of_kept ((af.refl _).alloc _)⟩
theorem dI (V:Nat):∀ (args:List Int) (k r:Nat),args.length<k->ay V args k r=[]
 | [],k,r,h=>by unfold ay;rw [if_neg (by simp at h;omega)]
 | a :: l,k,r,h=>by
  simp at h;unfold ay;rw [if_neg (by omega),dI V l (k - 1) _ (by omega),dI V l k _ (by omega)];rfl
theorem jA (l m:List Nat) (n:Nat):(l.take n++m).take n=(l++m).take n:=by
 rw [List.take_append,List.take_append,List.take_take,Nat.min_self,List.length_take];congr 1;by_cases h:n<=l.length
 ·rw [Nat.min_eq_left h,Nat.sub_self,show n - l.length=0 by omega]
 ·rw [Nat.min_eq_right (by omega)]
theorem gI {L:List Nat} {c:Nat} (h:L.length<=4097):vw L c=(L++[c]).take 4097:=by
 unfold vw;split
 ·rw [List.take_of_length_le (by simp;omega)]
 ·rw [List.take_append,show 4097 - L.length=0 by omega,List.take_of_length_le (by omega)];simp
theorem mU {w:World} {b o n c:Nat} {x:Int} {l:List Int} (h:aq w (.slice (some ⟨b,o,none⟩) n c) (x :: l)) (hc:2<=c):aq w (.slice (some ⟨b,o+1,none⟩) (n - 1) (c - 1)) l:=by
 obtain ⟨a,c',h1,h2,h3,h4⟩:=h;injection h1 with e1 e2 e3
 subst e1 e2 e3;simp at h2 h3;refine ⟨some ⟨b,o+1,none⟩,c - 1,by simp,⟨by omega,fun h=>by cases h⟩,by omega,fun i hi=>?_⟩;obtain ⟨b',o',h5,h6⟩:=h4 (i+1) (by simpa using hi);injection h5 with h5
 injection h5 with h7 h8
 subst h7 h8;exact ⟨b,o+1,rfl,by rw [show o+1+i=o+(i+1) by omega,h6];simp⟩
theorem ListAt.kept {w w':World} {gl B:Nat} {v:Value} {L:List Nat} (h:ListAt w gl B v L) (hk:af w w'):ListAt w' gl B v L:=⟨h.1.kept hk,h.2.kept hk⟩
theorem ku (gl B V m k r:Nat) (T:Int) (fa aa:Option Addr) (fn fc ac:Nat) (v:Value) (L:List Nat) (W:World) (hB:B<=gl) (hL:ListAt W gl B v L) (hl:L.length<=4097) (hr:aB 152 r) (hk:k<=1000) (hm:m<=1000) (hc:L.length=4097\/m<k\/k=0) :
  Calls Tryz.prog 185 #[.pointer (some ⟨gl,0,none⟩),.agg #[.int .i64 V,.slice fa fn fc,.int .i64 T],cP r,.slice aa m ac,.int .i64 k] W fun e w'=>e=.returned (.tuple #[])/\∃ v',ListAt w' gl B v' (if L.length=4097\/m<k then L else L++[r])/\dE gl v v' W w':=by
 have HADD:Hid (∀ W',af W W'->L.length<=4096->Calls Tryz.prog 129 #[.pointer (some ⟨gl,0,none⟩),cP r] W' fun e w'=>e=.returned (.tuple #[])/\∃ v',ListAt w' gl B v' (L++[r])/\dE gl v v' W' w'):=ae fun W' hk h=>by
  have:=iW gl B r v L W' (hL.kept hk) hr hl hB;unfold vw at this;rw [if_pos h] at this;exact this
 have HL:=ae hL;obtain ⟨hro,hv⟩:=hL;have c0:=hro.cell (i:=0) (by simp);simp only [List.getElem_cons_zero] at c0;obtain ⟨la,lc,hv2⟩:=hv.at.shape;obtain ⟨n,hn⟩:∃ n,n=L.length:=⟨_,rfl⟩;rw [<-hn] at hv2 hl hc HADD⊢;subst hv2;have hgl:=hro.lt;unfold cP at *;generalize aZ r=x0 at *;generalize cr r=x1 at *;generalize b_ r=x2 at *;clear hro hv hr hn;by_cases h1:n=4097
 ·rw [if_pos (.inl h1)];have h1':(4096:Int)<(n:Int):=by omega
  clear h1 hc;go_enter Tryz.func185,Tryz.ntmps185;go_wp2;refine bodyPost_ret (results_none rfl _ _ _) rfl ?_;exact ⟨rfl,_,HL.out.kept (((af.refl _).alloc _).alloc _),dE.of_kept (((af.refl _).alloc _).alloc _)⟩
 ·have h1':¬ (4096:Int)<(n:Int):=by omega
  by_cases h2:m<k
  ·rw [if_pos (.inr h2)];have h2':(m:Int)<(k:Int):=by omega
   clear h1 hc h2;go_enter Tryz.func185,Tryz.ntmps185;go_wp2;refine bodyPost_ret (results_none rfl _ _ _) rfl ?_;exact ⟨rfl,_,HL.out.kept (((af.refl _).alloc _).alloc _),dE.of_kept (((af.refl _).alloc _).alloc _)⟩
  ·rw [if_neg (by omega)];have hk0:k=0:=by omega
   subst hk0;have h2':¬ (m:Int)<0:=by omega
   have HA:=ae (fun W' hk=>HADD.out W' hk (by omega));clear h1 hc h2 HADD;go_enter Tryz.func185,Tryz.ntmps185;go_wp2_with (go_at_call 129;refine (HA.out _ (((af.refl _).alloc _).alloc _)).mono ?_;rintro e w2 ⟨rfl,v',h3,h4⟩);refine bodyPost_ret (results_none rfl _ _ _) rfl ?_;exact ⟨rfl,v',h3,(dE.of_kept (((af.refl W).alloc _).alloc _)).trans h4⟩
theorem pd (gl B V n m k k1 b o ac x0 x1 x2 y0 y1 y2:Nat) (T a:Int) (fa la:Option Addr) (fn fc lc:Nat) (tv:Value) (L1 L2:List Nat) (W:World) (hgl:gl<W.heap.size) (c0:W.cell? ⟨gl,0,none⟩=some (.slice la n lc)) (hown:∀ g,(Value.slice la n lc).ownBlock=some g->g<W.heap.size)
  (hn:n<=4096) (hk:1<=k) (hkm:k<=m) (hm:m<=200) (hmc:m<=ac) (hk1:k1=k - 1) (htv:(2<=ac/\tv=.slice (some ⟨b,o+1,none⟩) (m - 1) (ac - 1))\/(ac=1/\tv=.slice (some ⟨b,o,none⟩) 0 0))
  (harg:∀ v1 w',dE gl (.slice la n lc) v1 W w'->w'.cell? ⟨b,o,none⟩=some (.int .i64 a)) (_hbo:b<W.heap.size)
  (hwith:∀ W',Calls Tryz.prog 125 #[.agg #[.int .i64 x0,.int .u64 x1,.int .u64 x2],.agg #[.int .i64 V,.slice fa fn fc,.int .i64 T],.int .i64 a] W' fun e w'=>e=.returned (.agg #[.int .i64 y0,.int .u64 y1,.int .u64 y2])/\af W' w')
  (hc1:∀ W',af W W'->Calls Tryz.prog 185 #[.pointer (some ⟨gl,0,none⟩),.agg #[.int .i64 V,.slice fa fn fc,.int .i64 T],.agg #[.int .i64 y0,.int .u64 y1,.int .u64 y2],tv,.int .i64 k1] W' fun e w'=>e=.returned (.tuple #[])/\∃ v1,ListAt w' gl B v1 L1/\dE gl (.slice la n lc) v1 W' w')
  (hc2:∀ v1 W',ListAt W' gl B v1 L1->dE gl (.slice la n lc) v1 W W'->Calls Tryz.prog 185 #[.pointer (some ⟨gl,0,none⟩),.agg #[.int .i64 V,.slice fa fn fc,.int .i64 T],.agg #[.int .i64 x0,.int .u64 x1,.int .u64 x2],tv,.int .i64 k] W' fun e w'=>e=.returned (.tuple #[])/\∃ v2,ListAt w' gl B v2 L2/\dE gl v1 v2 W' w') :
  Calls Tryz.prog 185 #[.pointer (some ⟨gl,0,none⟩),.agg #[.int .i64 V,.slice fa fn fc,.int .i64 T],.agg #[.int .i64 x0,.int .u64 x1,.int .u64 x2],.slice (some ⟨b,o,none⟩) m ac,.int .i64 k] W fun e w'=>e=.returned (.tuple #[])/\∃ v2,ListAt w' gl B v2 L2/\dE gl (.slice la n lc) v2 W w':=by
 obtain ⟨w1,hw1⟩:∃ w1,w1=(W.alloc (.cells #[.int .i64 V,.slice fa fn fc,.int .i64 T] 41)).alloc (.cells #[.int .i64 x0,.int .u64 x1,.int .u64 x2] 99):=⟨_,rfl⟩;have hkw:af W w1:=by rw [hw1];exact ((af.refl _).alloc _).alloc _
 have hsz:w1.heap.size=W.heap.size+1+1:=by rw [hw1];simp
 have q0:w1.cell? ⟨W.heap.size,0,none⟩=some (.int .i64 V):=by rw [hw1];simp
 have q1:w1.cell? ⟨W.heap.size,1,none⟩=some (.slice fa fn fc):=by rw [hw1];simp
 have q2:w1.cell? ⟨W.heap.size,2,none⟩=some (.int .i64 T):=by rw [hw1];simp
 have q3:w1.cell? ⟨W.heap.size+1,0,none⟩=some (.int .i64 x0):=by rw [hw1];simp
 have q4:w1.cell? ⟨W.heap.size+1,1,none⟩=some (.int .u64 x1):=by rw [hw1];simp
 have q5:w1.cell? ⟨W.heap.size+1,2,none⟩=some (.int .u64 x2):=by rw [hw1];simp
 have qa:=harg _ w1 (dE.of_kept hkw)
 have HC1:Hid (∀ W',af w1 W'->Calls Tryz.prog 185 #[.pointer (some ⟨gl,0,none⟩),.agg #[.int .i64 V,.slice fa fn fc,.int .i64 T],.agg #[.int .i64 y0,.int .u64 y1,.int .u64 y2],tv,.int .i64 k1] W' fun e w'=>e=.returned (.tuple #[])/\(∃ v1,ListAt w' gl B v1 L1/\dE gl (.slice la n lc) v1 w1 w') /\
   (w'.cell? ⟨W.heap.size,0,none⟩=some (.int .i64 V)/\w'.cell? ⟨W.heap.size,1,none⟩=some (.slice fa fn fc)/\w'.cell? ⟨W.heap.size,2,none⟩=some (.int .i64 T)/\w'.cell? ⟨W.heap.size+1,0,none⟩=some (.int .i64 x0)/\w'.cell? ⟨W.heap.size+1,1,none⟩=some (.int .u64 x1)/\w'.cell? ⟨W.heap.size+1,2,none⟩=some (.int .u64 x2)/\w'.cell? ⟨b,o,none⟩=some (.int .i64 a))):=ae fun W' hk=>by
  refine (hc1 W' (hkw.trans hk)).mono fun e w' ⟨he,v1,h1,h2⟩=>⟨he,⟨v1,h1,(dE.of_kept hk).trans h2⟩,?_⟩
  have hs:=hk.size;have hne1:some W.heap.size≠(Value.slice la n lc).ownBlock:=fun e=>by have:=hown _ e.symm;omega
  have hne2:some (W.heap.size+1)≠(Value.slice la n lc).ownBlock:=fun e=>by have:=hown _ e.symm;omega
  exact ⟨h2.cell (by omega) (by omega) hne1 (hk.cell q0),h2.cell (by omega) (by omega) hne1 (hk.cell q1),h2.cell (by omega) (by omega) hne1 (hk.cell q2),h2.cell (by omega) (by omega) hne2 (hk.cell q3),h2.cell (by omega) (by omega) hne2 (hk.cell q4),h2.cell (by omega) (by omega) hne2 (hk.cell q5),harg _ _ ((dE.of_kept (hkw.trans hk)).trans h2)⟩
 have HC2:=ae hc2;have HOWN:=ae hown;have HWI:=ae hwith;have HKW:=ae hkw;have HW1:Hid (w1=(W.alloc (.cells #[.int .i64 V,.slice fa fn fc,.int .i64 T] 41)).alloc (.cells #[.int .i64 x0,.int .u64 x1,.int .u64 x2] 99)):=ae hw1;have hn':¬ (4096:Int)<(n:Int):=by omega
 have hkm':¬ (m:Int)<(k:Int):=by omega
 have hk0:((k:Int) == 0)=false:=by simp;omega
 have hm1:(0:Int)<(m:Int):=by omega
 have hm2:1<=(m:Int):=by omega
 have hm3:0<m:=by omega
 have hk9:(k:Int)<=200:=by omega
 have hk91:1<=(k:Int):=by omega
 have hmac:1<=(ac:Int):=by omega
 have hkk:(k:Int) - 1=(k1:Int):=by omega
 rcases htv with ⟨hac,rfl⟩ | ⟨hac,rfl⟩
 ·have hac1:¬ ac=1:=by omega
  have hac2:¬ (ac:Int)=1:=by omega
  have hkw1:IntKind.i64.wrap (k1:Int)=(k1:Int):=by rw [IntKind.wrap_i64];omega
  clear hc1 hc2 hwith hkw hown harg hk1 hac hn hk hkm hw1;go_enter Tryz.func185,Tryz.ntmps185;go_wp2;rw [<-HW1.out];go_upto_region 4 with fail
  go_cut [] (fun wx=>(∃ v1,Hid (ListAt wx gl B v1 L1)/\Hid (dE gl (.slice la n lc) v1 w1 wx))/\(wx.cell? ⟨W.heap.size,0,none⟩=some (.int .i64 V)/\wx.cell? ⟨W.heap.size,1,none⟩=some (.slice fa fn fc)/\wx.cell? ⟨W.heap.size,2,none⟩=some (.int .i64 T)/\wx.cell? ⟨W.heap.size+1,0,none⟩=some (.int .i64 x0)/\wx.cell? ⟨W.heap.size+1,1,none⟩=some (.int .u64 x1)/\wx.cell? ⟨W.heap.size+1,2,none⟩=some (.int .u64 x2)))
  case first =>
   go_region_held3 (fun w'=>w'.cell? ⟨W.heap.size,0,none⟩=some (.int .i64 V)/\w'.cell? ⟨W.heap.size,1,none⟩=some (.slice fa fn fc)/\w'.cell? ⟨W.heap.size,2,none⟩=some (.int .i64 T)/\w'.cell? ⟨W.heap.size+1,0,none⟩=some (.int .i64 x0)/\w'.cell? ⟨W.heap.size+1,1,none⟩=some (.int .u64 x1)/\w'.cell? ⟨W.heap.size+1,2,none⟩=some (.int .u64 x2)/\w'.cell? ⟨b,o,none⟩=some (.int .i64 a))
    (first | go_keep | exact ⟨hk3.cell q0,hk3.cell q1,hk3.cell q2,hk3.cell q3,hk3.cell q4,hk3.cell q5,hk3.cell qa⟩ | exact hS4)
    (first | (go_at_call 125;refine (HWI.out _).mono ?_;rintro e w3 ⟨rfl,hk3⟩) | (go_at_call 185;refine (HC1.out _ ((af.refl _).drew.trans hk3)).mono ?_;rintro e w4 ⟨rfl,h4,hS4⟩))
   all_goals
    obtain ⟨v1,h5,h6⟩:=h4;have HL5:=ae h5;have HF6:=ae h6;obtain ⟨g0,g1,g2,g3,g4,g5,_⟩:=hS4;clear h5 h6;go_wp2_with fail;go_meet;exact ⟨⟨v1,HL5,HF6⟩,g0,g1,g2,g3,g4,g5⟩
  case rest =>
   obtain ⟨⟨v1,h5,h6⟩,g0,g1,g2,g3,g4,g5⟩:=hcut;clear q0 q1 q2 q3 q4 q5 qa HC1 HWI hkw1
   have HC3:Hid (∀ W',af wc W'->Calls Tryz.prog 185 #[.pointer (some ⟨gl,0,none⟩),.agg #[.int .i64 V,.slice fa fn fc,.int .i64 T],.agg #[.int .i64 x0,.int .u64 x1,.int .u64 x2],.slice (some ⟨b,o+1,none⟩) (m - 1) (ac - 1),.int .i64 k] W' fun e w'=>e=.returned (.tuple #[])/\(∃ v2,Hid (ListAt w' gl B v2 L2)/\Hid (dE gl (.slice la n lc) v2 W w'))/\(w'.cell? ⟨W.heap.size,0,none⟩=some (.int .i64 V)/\w'.cell? ⟨W.heap.size,1,none⟩=some (.slice fa fn fc)/\w'.cell? ⟨W.heap.size,2,none⟩=some (.int .i64 T)/\w'.cell? ⟨W.heap.size+1,0,none⟩=some (.int .i64 x0)/\w'.cell? ⟨W.heap.size+1,1,none⟩=some (.int .u64 x1)/\w'.cell? ⟨W.heap.size+1,2,none⟩=some (.int .u64 x2))):=ae fun W' hk=>by
    have hf:=(dE.of_kept HKW.out).trans (h6.out.trans (dE.of_kept hk));refine (HC2.out v1 W' (h5.out.kept hk) hf).mono fun _ _ ⟨he,v2,e1,e2⟩=>⟨he,⟨v2,ae e1,ae (hf.trans e2)⟩,?_⟩
    have hs:=hk.size;have hs2:=h6.out.size
    have hne:∀ j,j<2->some (W.heap.size+j)≠v1.ownBlock:=fun j hj e=>by
     rcases h6.out.own with h | h
     ·rw [h] at e;have:=HOWN.out _ e.symm;omega
     ·have:=h _ e.symm;omega
    have hne1:=hne 0 (by omega);have hne2:=hne 1 (by omega);exact ⟨e2.cell (by omega) (by omega) hne1 (hk.cell g0),e2.cell (by omega) (by omega) hne1 (hk.cell g1),e2.cell (by omega) (by omega) hne1 (hk.cell g2),e2.cell (by omega) (by omega) hne2 (hk.cell g3),e2.cell (by omega) (by omega) hne2 (hk.cell g4),e2.cell (by omega) (by omega) hne2 (hk.cell g5)⟩
   clear HC2 h5 h6;go_upto_region 5 with fail
   go_region_held3 (fun w'=>w'.cell? ⟨W.heap.size,0,none⟩=some (.int .i64 V)/\w'.cell? ⟨W.heap.size,1,none⟩=some (.slice fa fn fc)/\w'.cell? ⟨W.heap.size,2,none⟩=some (.int .i64 T)/\w'.cell? ⟨W.heap.size+1,0,none⟩=some (.int .i64 x0)/\w'.cell? ⟨W.heap.size+1,1,none⟩=some (.int .u64 x1)/\w'.cell? ⟨W.heap.size+1,2,none⟩=some (.int .u64 x2))
    (first | go_keep | exact hS4)
    (first | (go_at_call 185;refine (HC3.out _ ((af.refl _).drew)).mono ?_;rintro e w4 ⟨rfl,⟨v2,h7,h8⟩,hS4⟩))
   all_goals
    go_wp2;go_end0;exact ⟨rfl,v2,h7.out,h8.out⟩
 ·subst hac;have hkw1:IntKind.i64.wrap (k1:Int)=(k1:Int):=by rw [IntKind.wrap_i64];omega
  clear hc1 hc2 hwith hkw hown harg hk1 hn hk hkm hw1;go_enter Tryz.func185,Tryz.ntmps185;go_wp2;rw [<-HW1.out];go_upto_region 4 with fail
  go_cut [] (fun wx=>(∃ v1,Hid (ListAt wx gl B v1 L1)/\Hid (dE gl (.slice la n lc) v1 w1 wx))/\(wx.cell? ⟨W.heap.size,0,none⟩=some (.int .i64 V)/\wx.cell? ⟨W.heap.size,1,none⟩=some (.slice fa fn fc)/\wx.cell? ⟨W.heap.size,2,none⟩=some (.int .i64 T)/\wx.cell? ⟨W.heap.size+1,0,none⟩=some (.int .i64 x0)/\wx.cell? ⟨W.heap.size+1,1,none⟩=some (.int .u64 x1)/\wx.cell? ⟨W.heap.size+1,2,none⟩=some (.int .u64 x2)))
  case first =>
   go_region_held3 (fun w'=>w'.cell? ⟨W.heap.size,0,none⟩=some (.int .i64 V)/\w'.cell? ⟨W.heap.size,1,none⟩=some (.slice fa fn fc)/\w'.cell? ⟨W.heap.size,2,none⟩=some (.int .i64 T)/\w'.cell? ⟨W.heap.size+1,0,none⟩=some (.int .i64 x0)/\w'.cell? ⟨W.heap.size+1,1,none⟩=some (.int .u64 x1)/\w'.cell? ⟨W.heap.size+1,2,none⟩=some (.int .u64 x2)/\w'.cell? ⟨b,o,none⟩=some (.int .i64 a))
    (first | go_keep | exact ⟨hk3.cell q0,hk3.cell q1,hk3.cell q2,hk3.cell q3,hk3.cell q4,hk3.cell q5,hk3.cell qa⟩ | exact hS4)
    (first | (go_at_call 125;refine (HWI.out _).mono ?_;rintro e w3 ⟨rfl,hk3⟩) | (go_at_call 185;refine (HC1.out _ ((af.refl _).drew.trans hk3)).mono ?_;rintro e w4 ⟨rfl,h4,hS4⟩))
   all_goals
    obtain ⟨v1,h5,h6⟩:=h4;have HL5:=ae h5;have HF6:=ae h6;obtain ⟨g0,g1,g2,g3,g4,g5,_⟩:=hS4;clear h5 h6;go_wp2_with fail;go_meet;exact ⟨⟨v1,HL5,HF6⟩,g0,g1,g2,g3,g4,g5⟩
  case rest =>
   obtain ⟨⟨v1,h5,h6⟩,g0,g1,g2,g3,g4,g5⟩:=hcut;clear q0 q1 q2 q3 q4 q5 qa HC1 HWI hkw1
   have HC3:Hid (∀ W',af wc W'->Calls Tryz.prog 185 #[.pointer (some ⟨gl,0,none⟩),.agg #[.int .i64 V,.slice fa fn fc,.int .i64 T],.agg #[.int .i64 x0,.int .u64 x1,.int .u64 x2],.slice (some ⟨b,o,none⟩) 0 0,.int .i64 k] W' fun e w'=>e=.returned (.tuple #[])/\(∃ v2,Hid (ListAt w' gl B v2 L2)/\Hid (dE gl (.slice la n lc) v2 W w'))/\(w'.cell? ⟨W.heap.size,0,none⟩=some (.int .i64 V)/\w'.cell? ⟨W.heap.size,1,none⟩=some (.slice fa fn fc)/\w'.cell? ⟨W.heap.size,2,none⟩=some (.int .i64 T)/\w'.cell? ⟨W.heap.size+1,0,none⟩=some (.int .i64 x0)/\w'.cell? ⟨W.heap.size+1,1,none⟩=some (.int .u64 x1)/\w'.cell? ⟨W.heap.size+1,2,none⟩=some (.int .u64 x2))):=ae fun W' hk=>by
    have hf:=(dE.of_kept HKW.out).trans (h6.out.trans (dE.of_kept hk));refine (HC2.out v1 W' (h5.out.kept hk) hf).mono fun _ _ ⟨he,v2,e1,e2⟩=>⟨he,⟨v2,ae e1,ae (hf.trans e2)⟩,?_⟩
    have hs:=hk.size;have hs2:=h6.out.size
    have hne:∀ j,j<2->some (W.heap.size+j)≠v1.ownBlock:=fun j hj e=>by
     rcases h6.out.own with h | h
     ·rw [h] at e;have:=HOWN.out _ e.symm;omega
     ·have:=h _ e.symm;omega
    have hne1:=hne 0 (by omega);have hne2:=hne 1 (by omega);exact ⟨e2.cell (by omega) (by omega) hne1 (hk.cell g0),e2.cell (by omega) (by omega) hne1 (hk.cell g1),e2.cell (by omega) (by omega) hne1 (hk.cell g2),e2.cell (by omega) (by omega) hne2 (hk.cell g3),e2.cell (by omega) (by omega) hne2 (hk.cell g4),e2.cell (by omega) (by omega) hne2 (hk.cell g5)⟩
   clear HC2 h5 h6;go_upto_region 5 with fail
   go_region_held3 (fun w'=>w'.cell? ⟨W.heap.size,0,none⟩=some (.int .i64 V)/\w'.cell? ⟨W.heap.size,1,none⟩=some (.slice fa fn fc)/\w'.cell? ⟨W.heap.size,2,none⟩=some (.int .i64 T)/\w'.cell? ⟨W.heap.size+1,0,none⟩=some (.int .i64 x0)/\w'.cell? ⟨W.heap.size+1,1,none⟩=some (.int .u64 x1)/\w'.cell? ⟨W.heap.size+1,2,none⟩=some (.int .u64 x2))
    (first | go_keep | exact hS4)
    (first | (go_at_call 185;refine (HC3.out _ ((af.refl _).drew)).mono ?_;rintro e w4 ⟨rfl,⟨v2,h7,h8⟩,hS4⟩))
   all_goals
    go_wp2;go_end0;exact ⟨rfl,v2,h7.out,h8.out⟩
theorem rd (gl B V:Nat) (T:Int) (v0:Value) (W0:World) (hs:∃ a n c,v0=.slice a n c) (hV:V<=24) (hB:B<=gl) (_hBW:B<=W0.heap.size) :
  ∀ (args:List Int) (va:Value),(∀ w',Below B W0 w'->aq w' va args)->(∀ a∈args,0<=a/\a<(V:Int)+128)->args.length<=100->∀ (k r:Nat) (v:Value) (L:List Nat) (W:World),Below B W0 W->ListAt W gl B v L->L.length<=4097->aB 152 r->k<=1000 ->
   Calls Tryz.prog 185 #[.pointer (some ⟨gl,0,none⟩),.agg #[.int .i64 V,v0,.int .i64 T],cP r,va,.int .i64 k] W fun e w'=>e=.returned (.tuple #[])/\∃ v',ListAt w' gl B v' ((L++ay V args k r).take 4097)/\dE gl v v' W w':=by
 obtain ⟨fa,fn,fc,rfl⟩:=hs;intro args;induction args with
 | nil =>
  intro va hva _ _ k r v L W hW hL hl hr hk;obtain ⟨aa,an,ac,rfl⟩:=(hva W hW).shape
  have han:an=0:=by
   obtain ⟨_,_,h,_⟩:=hva W hW;injection h
  subst han;have:=ku gl B V 0 k r T fa aa fn fc ac v L W hB hL hl hr hk (by omega) (by omega);refine this.mono fun e w' ⟨he,v',h1,h2⟩=>⟨he,v',?_,h2⟩
  unfold ay;by_cases hk0:k=0
  ·rw [if_pos hk0];by_cases h9:L.length=4097
   ·rw [if_pos (.inl h9)] at h1;rw [List.take_append,h9,List.take_of_length_le (by omega)];simpa using h1
   ·rw [if_neg (by omega)] at h1;rw [List.take_of_length_le (by simp;omega)];exact h1
  ·rw [if_neg hk0,List.append_nil,List.take_of_length_le hl];rw [if_pos (.inr (by omega))] at h1;exact h1
 | cons a l ih =>
  intro va hva hargs hal k r v L W hW hL hl hr hk;obtain ⟨aa,an,ac,rfl⟩:=(hva W hW).shape
  have han:an=l.length+1:=by
   obtain ⟨_,_,h,_⟩:=hva W hW;injection h
  subst han;by_cases hbase:L.length=4097\/l.length+1<k\/k=0
  ·have:=ku gl B V (l.length+1) k r T fa aa fn fc ac v L W hB hL hl hr hk (by simp at hal;omega) hbase;refine this.mono fun e w' ⟨he,v',h1,h2⟩=>⟨he,v',?_,h2⟩
   by_cases h9:L.length=4097
   ·rw [if_pos (.inl h9)] at h1;rw [List.take_append,h9,List.take_of_length_le (by omega)];simpa using h1
   ·by_cases h8:l.length+1<k
    ·rw [if_pos (.inr h8)] at h1;rw [dI V (a :: l) k r (by simpa using h8),List.append_nil,List.take_of_length_le hl];exact h1
    ·rw [if_neg (by omega)] at h1;unfold ay;rw [if_pos (by omega),List.take_of_length_le (by simp;omega)];exact h1
  ·have hl4:L.length<=4096:=by omega
   have hk1:1<=k:=by omega
   have hkl:k<=l.length+1:=by omega
   obtain ⟨k1,hk1e⟩:∃ k1,k1=k - 1:=⟨_,rfl⟩;have hlt:∀ x∈l,0<=x/\x<(V:Int)+128:=fun x hx=>hargs x (List.mem_cons_of_mem _ hx)
   have ha:=hargs a (List.mem_cons_self ..);have hr1:aB 152 (aJ V r a):=eY hr (d_ (cG (V:=V) (m:=128) (by omega) hV) (by omega))
   obtain ⟨b,o,rfl,hca⟩:∃ b o,aa=some ⟨b,o,none⟩/\∀ w',Below B W0 w'->w'.cell? ⟨b,o,none⟩=some (.int .i64 a):=by
    obtain ⟨a',c',h1,_,_,h4⟩:=hva W hW;injection h1 with h1 h2 h3
    obtain ⟨b,o,h5,_⟩:=h4 0 (by simp);refine ⟨b,o,by rw [h1,h5],fun w' hw'=>?_⟩;obtain ⟨a2,c2,g1,_,_,g4⟩:=hva w' hw';injection g1 with g1 g2 g3
    obtain ⟨b2,o2,g5,g6⟩:=g4 0 (by simp);rw [<-g1,h1,h5] at g5;injection g5 with g5
    injection g5 with g7 g8
    subst g7 g8;simpa using g6
   have hac:l.length+1<=ac:=by
    obtain ⟨_,_,h1,h2,_⟩:=hva W hW;injection h1 with _ _ h3
    rw [h3];simpa using h2.1
   have hcut:ay V (a :: l) k r=ay V l k1 (aJ V r a)++ay V l k r:=by
    rw [hk1e]
    conv=>lhs;unfold ay
    rw [if_neg (by omega)]
   rw [hcut];obtain ⟨hro,hv⟩:=hL;have hLA:ListAt W gl B v L:=⟨hro,hv⟩;have hgl:=hro.lt;have c0:=hro.cell (i:=0) (by simp);simp only [List.getElem_cons_zero] at c0;obtain ⟨la,lc,rfl⟩:=hv.at.shape;have hBW':B<=W.heap.size:=by omega
   obtain ⟨tv,htv,hti⟩:∃ tv,((2<=ac/\tv=.slice (some ⟨b,o+1,none⟩) (l.length+1 - 1) (ac - 1))\/(ac=1/\tv=.slice (some ⟨b,o,none⟩) 0 0))/\∀ w',Below B W0 w'->aq w' tv l:=by
    by_cases h2:2<=ac
    ·exact ⟨_,.inl ⟨h2,rfl⟩,fun w' hw'=>mU (hva w' hw') h2⟩
    ·have hl0:l=[]:=List.eq_nil_of_length_eq_zero (by omega);subst hl0;exact ⟨_,.inr ⟨by omega,rfl⟩,fun w' _=>⟨some ⟨b,o,none⟩,0,rfl,⟨by simp,fun h=>by cases h⟩,by simp,fun i h=>by simp at h⟩⟩
   have hbo:b<W.heap.size:=by
    have:=hca W hW;by_cases h:b<W.heap.size
    ·exact h
    ·simp [World.cell?,Array.getElem?_eq_none (Nat.le_of_not_lt h)] at this
   have hX1:(L++ay V l k1 (aJ V r a)).take 4097=(L++ay V l k1 (aJ V r a)).take 4097:=rfl;refine pd gl B V L.length (l.length+1) k k1 b o ac _ _ _ (aZ (aJ V r a)) (cr (aJ V r a)) (b_ (aJ V r a)) T a fa la fn fc lc tv ((L++ay V l k1 (aJ V r a)).take 4097) _ W hgl c0 (fun g hg=>(hv.own_ge hg).2) hl4 hk1 hkl (by simp at hal;omega) hac hk1e htv (fun v1 w' hf=>hca w' (hW.trans (hf.below hv hB hBW'))) hbo (fun W'=>gR hr V _ T ⟨fa,fn,fc,rfl⟩ hV a (by omega) W') (fun W' hk=>?_) (fun v1 W' h1 h2=>?_)
   ·exact ih tv hti hlt (by simp at hal;omega) k1 (aJ V r a) _ L W' (hW.trans (hk.mono hBW')) (hLA.kept hk) hl hr1 (by omega)
   ·have h3:=ih tv hti hlt (by simp at hal;omega) k r v1 _ W' (hW.trans (h2.below hv hB hBW')) h1 (by rw [List.length_take];omega) hr hk;rw [jA,List.append_assoc] at h3;exact h3
end Go.Proofs.YtofibjflkebkpaaGreatDoor
