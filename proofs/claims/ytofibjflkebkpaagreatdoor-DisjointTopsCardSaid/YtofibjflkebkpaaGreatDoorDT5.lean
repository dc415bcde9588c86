import Derived.WalkKit
import Derived.WalkSpells
import Derived.WalkLawsBesides
import Derived.Deep.QuietTactic
import Derived.BigQuiet
import Derived.Lib.Hide
import Derived.Shelf.Abstract
import Derived.Deep.RegionWith
import Derived.Laws.AppendOwnNone
import Derived.Lib.AppendZerosOnto
import Derived.Lib.SliceRun
import Derived.Lib.SlicesCompact
import Derived.Shelf.SlSortCmp.NoneTotal
import Derived.Maps.OwnOps
import Derived.Maps.OwnSet
import Derived.Maps.Views
import Derived.Deep.MidRow
import Derived.Deep.RegionHeld3
import Derived.Deep.AppendLies
import Derived.Deep.RegionLaw
import Derived.IntWalk
import Derived.StillTailTactics
import Derived.RegionTactic
import Derived.BigRegion
import Derived.ChangeAlike
import Derived.Sort.LotD2
import Derived.Sort.LotA
import Derived.Shelf.SlSortCmp.PdqK
import Derived.Deep.DeepCutAuto
import Derived.Lib.ItoaNum
import Derived.Deep.LoopGhost
import Derived.ProofKit
import Derived.OpenShut
import Derived.SizedLaws
import Derived.Lib.SmallJoins
import Derived.Deep.Slices
import Derived.Deep.Fields
import Derived.Deep.Strs
import Derived.Carry
import Derived.Test.YtofibjflkebkpaaGreatDoorDT4
import Derived.Test.YtofibjflkebkpaaGreatDoorDT1
import Derived.Test.YtofibjflkebkpaaGreatDoorShelf
import Derived.Test.YtofibjflkebkpaaGreatDoorDT2
import Derived.Lib.BitFns
import Derived.Deep.CutBlock
set_option maxRecDepth 100000
set_option maxHeartbeats 16000000
namespace Go.Proofs.YtofibjflkebkpaaGreatDoor
open Go.RowKit
theorem pu {V W top head P:Nat} (hV:top*P<=V) (hW:W<(head+1)*P) (ht:0<top):W / V<=head / top:=by
 rw [Nat.le_div_iff_mul_le ht];rcases Nat.eq_zero_or_pos V with rfl | hpos
 ·simp
 have h1:W / V*(top*P)<=W / V*V:=Nat.mul_le_mul_left _ hV;have h2:W / V*V<=W:=Nat.div_mul_le_self W V;have h3:W / V*top*P<(head+1)*P:=by rw [Nat.mul_assoc];omega
 have h4:=Nat.lt_of_mul_lt_mul_right h3;omega
theorem tZ {V W V2 head3 guess P:Nat} (hV:V2*P<=V) (hW:W<(head3+1)*P) (hg:head3<guess*V2):W / V<guess:=by
 rcases Nat.eq_zero_or_pos V with rfl | hpos
 ·simp;rcases Nat.eq_zero_or_pos guess with rfl | h
  ·simp at hg
  ·exact h
 rw [Nat.div_lt_iff_lt_mul hpos];have h1:guess*(V2*P)<=guess*V:=Nat.mul_le_mul_left _ hV;have h2:(head3+1)*P<=guess*V2*P:=Nat.mul_le_mul_right _ hg;rw [Nat.mul_assoc] at h2;omega
theorem wt {V W V2 head3 guess P:Nat} (hV:V<(V2+1)*P) (hW:head3*P<=W) (hg:guess*V2<=head3) (hb:guess*P<=V) (hpos:0<V):guess<=W / V+1:=by
 have h1:guess*V<=guess*((V2+1)*P):=Nat.mul_le_mul_left _ (Nat.le_of_lt hV);have h2:guess*V2*P<=head3*P:=Nat.mul_le_mul_right _ hg;have h3:guess*((V2+1)*P)=guess*V2*P+guess*P:=by rw [Nat.add_mul,Nat.one_mul,Nat.mul_add,Nat.mul_assoc]
 have h4:guess*V<=W+V:=by omega
 have h5:guess<=(W+V) / V:=(Nat.le_div_iff_mul_le hpos).2 h4
 rwa [Nat.add_div_right _ hpos] at h5
theorem vV {head top next u2 guess rest:Nat} (h:guess*top+rest=head) (hg:4294967296<=guess\/rest*4294967296+u2<guess*next):head*4294967296+u2<guess*(top*4294967296+next)\/4294967296<=guess:=by
 rcases hg with hg | hg
 ·exact .inr hg
 ·refine .inl ?_;subst h;rw [Nat.mul_add,Nat.add_mul,<-Nat.mul_assoc,Nat.add_assoc];exact Nat.add_lt_add_left hg _
theorem pm {head top next u2 guess rest:Nat} (h:guess*top+rest=head) (hg:guess*next<=rest*4294967296+u2):guess*(top*4294967296+next)<=head*4294967296+u2:=by
 subst h;rw [Nat.mul_add,Nat.add_mul,<-Nat.mul_assoc];omega
theorem tT {head top next u2 guess rest:Nat} (h:guess*top+rest=head) (hr:4294967296<=rest) (hh:head<(top+1)*4294967296) (hn:next<4294967296) (_ht:0<top):guess<4294967296/\guess*(top*4294967296+next)<=head*4294967296+u2:=by
 have hg:guess<4294967296:=by
  have h1:guess*top<4294967296*top:=by rw [Nat.add_mul] at hh;omega
  exact Nat.lt_of_mul_lt_mul_right h1
 refine ⟨hg,pm h ?_⟩;have h2:guess*next<=4294967296*next:=Nat.mul_le_mul_right _ (Nat.le_of_lt hg);omega
theorem vh {O X Y x y n P b c s o b':Nat} (h:O+n*Y=X+b*P+c*P) (hs:s=c+n*y) (ho:o+s % 4294967296+b=x+b'*4294967296) :
  (O+o*P)+n*(Y+y*P)=(X+x*P)+b'*(4294967296*P)+(s / 4294967296)*(4294967296*P):=by
 have h1:=eU s P;have h2:s*P=c*P+n*(y*P):=by rw [hs,Nat.add_mul,Nat.mul_assoc]
 have h3:(o+s % 4294967296+b)*P=(x+b'*4294967296)*P:=by rw [ho]
 rw [Nat.add_mul,Nat.add_mul,Nat.add_mul,Nat.mul_assoc] at h3;rw [Nat.mul_add];omega
theorem tO {V W guess U b M:Nat} (hpos:0<V) (hU:U+guess*V=W+b*M) (hUM:U<M) (_hVM:V<=M) (hb:b<=1) (h1:W / V<=guess) (h2:guess<=W / V+1) :
  (b=0->guess=W / V/\U=W % V)/\(b=1->guess=W / V+1/\U+V=W % V+M):=by
 have hd:=Nat.div_add_mod W V;have hm:=Nat.mod_lt W hpos;have e1:(W / V)*V=V*(W / V):=Nat.mul_comm ..;have e2:(W / V+1)*V=V*(W / V)+V:=by rw [Nat.add_mul,Nat.one_mul,e1]
 constructor
 ·intro h0;subst h0
  have hg:guess=W / V:=by
   rcases Nat.lt_or_ge (W / V) guess with h | h
   ·have:guess=W / V+1:=by omega
    rw [this,e2] at hU;omega
   ·omega
  refine ⟨hg,?_⟩;rw [hg,e1] at hU;omega
 ·intro h0;subst h0
  have hg:guess=W / V+1:=by
   rcases Nat.lt_or_ge (W / V) guess with h | h
   ·omega
   ·have:guess=W / V:=by omega
    rw [this,e1] at hU;omega
  refine ⟨hg,?_⟩;rw [hg,e2] at hU;omega
theorem mZ {U V R Q u0:Nat} (h:U=V*Q+R) (x:Nat) (hx:x=u0+4294967296*R):u0+4294967296*U=V*(x / V+4294967296*Q)+x % V:=by
 have hd:=Nat.div_add_mod x V;rw [Nat.mul_add,show V*(4294967296*Q)=4294967296*(V*Q) by rw [Nat.mul_left_comm]];subst h;omega
theorem nD {a b q r n:Nat} (h:a*2^n=b*2^n*q+r) (hr:r<b*2^n):a / b=q/\r / 2^n=a % b:=by
 have hp:0<2^n:=Nat.pow_pos (by omega)
 obtain ⟨r',rfl⟩:∃ r',r=2^n*r':=by
  refine ⟨a - b*q,?_⟩;rw [Nat.mul_sub,Nat.mul_comm (2^n) a,h,show 2^n*(b*q)=b*2^n*q by rw [<-Nat.mul_assoc,Nat.mul_comm (2^n) b]];omega
 have h1:a=b*q+r':=by
  have:2^n*a=2^n*(b*q+r'):=by rw [Nat.mul_comm,h,Nat.mul_add,<-Nat.mul_assoc,Nat.mul_comm (2^n) b]
  exact Nat.eq_of_mul_eq_mul_left hp this
 have h2:r'<b:=by rw [Nat.mul_comm b] at hr;exact Nat.lt_of_mul_lt_mul_left hr
 obtain ⟨h3,h4⟩:=vQ h1 h2;exact ⟨h3,by rw [Nat.mul_div_cancel_left _ hp,h4]⟩
theorem nI {l:List Nat} (hw:Wd l) {m:Nat} (hm:l.length=m+2):nv l=nv (l.take m)+4294967296^m*(l.getD m 0+4294967296*l.getD (m+1) 0)/\(l.getD m 0+4294967296*l.getD (m+1) 0)*4294967296^m<=nv l/\nv l<(l.getD m 0+4294967296*l.getD (m+1) 0+1)*4294967296^m:=by
 have h1:=eV l m (by omega);rw [aS (by omega),aS (by omega),da (by omega)] at h1;simp only [Nat.mul_zero,Nat.add_zero] at h1;have h2:=dl (hw.take m);rw [List.length_take,Nat.min_eq_left (by omega)] at h2;refine ⟨h1,by rw [h1,Nat.mul_comm];omega,?_⟩;rw [Nat.add_mul,Nat.one_mul,Nat.mul_comm _ (4294967296^m)];omega
theorem eZ {l:List Nat} (hw:Wd l) {m:Nat} (hm:l.length=m+1):nv l=nv (l.take m)+4294967296^m*l.getD m 0/\l.getD m 0*4294967296^m<=nv l/\nv l<(l.getD m 0+1)*4294967296^m:=by
 have h1:=eV l m (by omega);rw [aS (by omega),da (by omega)] at h1;simp only [Nat.mul_zero,Nat.add_zero] at h1;have h2:=dl (hw.take m);rw [List.length_take,Nat.min_eq_left (by omega)] at h2;refine ⟨h1,by rw [h1,Nat.mul_comm];omega,?_⟩;rw [Nat.add_mul,Nat.one_mul,Nat.mul_comm _ (4294967296^m)];omega
structure Rw where
 neg:Bool
 num:List Nat
 den:List Nat
deriving DecidableEq
instance:Inhabited Rw:=⟨⟨false,[],[]⟩⟩
def Rw.Ok (r:Rw):Prop:=Wd r.num/\Wd r.den
def bO (a:List Nat):Bool:=decide (0<a.length)&&(a.getD (a.length - 1) 0 != 0)
theorem fZ {a:List Nat}:bO a=true ↔ a≠[]/\Pl a:=by
 unfold bO Pl;cases a with
 | nil=>simp
 | cons x l =>
  simp only [List.length_cons,Nat.zero_lt_succ,decide_true,Bool.true_and,ne_eq,reduceCtorEq,not_false_eq_true,true_and,List.getD_eq_getElem?_getD];constructor
  ·intro h _;rw [List.getLast_eq_getElem];simpa using h
  ·intro h;have:=h (by simp);rw [List.getLast_eq_getElem] at this;simpa using this
def br (r:Rw):Bool:=if r.num=[]/\r.den=[] then !r.neg else bO r.num&&bO r.den&&(Nat.gcd (nv r.num) (nv r.den) == 1)
def sg (neg:Bool) (n:Nat):Int:=if neg=true then -(n:Int) else n
theorem oK (neg:Bool) (n:Nat):(sg neg n).natAbs=n:=by unfold sg;split <;> simp
theorem kU (neg:Bool):sg neg 0=0:=by unfold sg;split <;> simp
def ag (r:Rw):Bool × List Nat × List Nat:=if br r=true/\r.num≠[] then (r.neg,r.num,r.den) else (false,[],[1])
def al (r:Rw):Rat:=mkRat (sg (ag r).1 (nv (ag r).2.1)) (nv (ag r).2.2)
theorem lJ {a:List Nat} (hw:Wd a) (h:bO a=true):nv a≠0:=by
 obtain ⟨h1,h2⟩:=fZ.1 h;intro h3;have:=ti hw h2;rw [h3,bY] at this;exact h1 this.symm
theorem pV {n:Nat} (h:n≠0):bO (nw n)=true:=fZ.2 ⟨fun e=>h (cL.1 e),wY n⟩
theorem aG {r:Rw} (h:r.Ok):Wd (ag r).2.1/\Wd (ag r).2.2/\nv (ag r).2.2≠0/\Pl (ag r).2.1/\Pl (ag r).2.2:=by
 unfold ag;split
 ·rename_i hv;obtain ⟨hv,hn⟩:=hv;unfold br at hv;rw [if_neg (fun e=>hn e.1)] at hv;simp only [Bool.and_eq_true] at hv;exact ⟨h.1,h.2,lJ h.2 hv.1.2,(fZ.1 hv.1.1).2,(fZ.1 hv.1.2).2⟩
 ·exact ⟨Wd.nil,Wd.cons (by omega) Wd.nil,by simp [nv],fun h=>absurd rfl h,fun _=>by simp⟩
def aj (q:Rat):Rw:=if q.num=0 then ⟨false,[],[]⟩ else ⟨decide (q.num<0),nw q.num.natAbs,nw q.den⟩
def fE (neg:Bool) (n d:Nat):Rw:=if n=0 then ⟨false,[],[]⟩ else ⟨neg,nw (n / Nat.gcd n d),nw (d / Nat.gcd n d)⟩
theorem ci (neg:Bool) (n d:Nat) (hd:d≠0):fE neg n d=aj (mkRat (sg neg n) d):=by
 unfold fE aj;have e1:(mkRat (sg neg n) d).num=sg neg n / (d.gcd n:Nat):=by rw [Rat.num_mkRat,if_neg hd,oK]
 have e2:(mkRat (sg neg n) d).den=d / Nat.gcd n d:=by rw [Rat.den_mkRat,if_neg hd,oK,Nat.gcd_comm]
 have hg:0<Nat.gcd n d:=Nat.gcd_pos_of_pos_right _ (by omega);have hdv:Nat.gcd n d ∣ n:=Nat.gcd_dvd_left ..
 have e3:sg neg n / (d.gcd n:Nat)=sg neg (n / Nat.gcd n d):=by
  rw [Nat.gcd_comm];unfold sg;split
  ·rw [Int.neg_ediv_of_dvd (Int.natCast_dvd_natCast.2 hdv),<-Int.natCast_ediv]
  ·rw [<-Int.natCast_ediv]
 rw [e1,e2,e3];by_cases h0:n=0
 ·subst h0;simp [kU]
 ·have hne:n / Nat.gcd n d≠0:=by
   have:=Nat.div_pos (Nat.le_of_dvd (by omega) hdv) hg;omega
  have h1:sg neg (n / Nat.gcd n d)≠0:=by unfold sg;split <;> omega
  rw [if_neg h0,if_neg h1,oK];congr 1;obtain ⟨m,hm⟩:∃ m,m=n / Nat.gcd n d:=⟨_,rfl⟩;rw [<-hm] at hne⊢;unfold sg;cases neg with
  | true=>simp;omega
  | false=>simp
theorem dc (q:Rat):(aj q).Ok:=by
 unfold aj;split
 ·exact ⟨Wd.nil,Wd.nil⟩
 ·exact ⟨dN _,dN _⟩
theorem iv (q:Rat):br (aj q)=true:=by
 unfold aj;split
 ·rfl
 ·rename_i h;unfold br;rw [if_neg (fun e=>by have:=cL.1 e.1;omega)];rw [pV (by omega),pV q.den_nz,am,am];have:=q.reduced;unfold Nat.Coprime at this;simp [this]
theorem aA (q:Rat):al (aj q)=q:=by
 unfold al ag;rw [iv];unfold aj;split
 ·rename_i h;simp only [ne_eq,not_true_eq_false,and_false,if_false];rw [cz,kU,Rat.zero_mkRat];exact (Rat.num_eq_zero.1 h).symm
 ·rename_i h;rw [if_pos ⟨rfl,fun e=>by have:=cL.1 e;omega⟩];simp only [am]
  have e:sg (decide (q.num<0)) q.num.natAbs=q.num:=by
   unfold sg;by_cases h2:q.num<0
   ·simp [h2];omega
   ·simp [h2];omega
  rw [e,Rat.mkRat_self]
theorem bF:aj 0=⟨false,[],[]⟩:=rfl
theorem Al (s:Bool) (a b:Nat):sg s (a+b)=sg s a+sg s b:=by unfold sg;split <;> omega
theorem Am (s t:Bool) (a b:Nat):sg (s != t) (a*b)=sg s a*sg t b:=by
 unfold sg;cases s <;> cases t <;> simp [Int.neg_mul,Int.mul_neg]
theorem An (s:Bool) (a:Nat):sg (!s) a=- sg s a:=by unfold sg;cases s <;> simp
theorem Ao {s t:Bool} (h:s≠t) {a b:Nat} (hab:b<=a):sg s (a - b)=sg s a+sg t b:=by
 unfold sg;cases s <;> cases t <;> simp at h⊢ <;> omega
theorem yZ {s t:Bool} (h:s≠t) {a b:Nat} (hab:a<=b):sg t (b - a)=sg s a+sg t b:=by
 unfold sg;cases s <;> cases t <;> simp at h⊢ <;> omega
theorem fJ (s:Bool) (a b:Nat):sg s (a*b)=sg s a*(b:Int):=by unfold sg;split <;> simp [Int.neg_mul]
def fp (x:Nat):Value:=.int .u32 (x:Int)
def ah (w:World) (v:Value) (xs:List Nat):Prop :=
 ∃ (a:Option Addr) (c:Nat),v=.slice a xs.length c/\(xs.length<=c/\(a=none->c=0))/\xs.length<=1099511627776/\Wd xs /\
  ∀ i (_:i<xs.length),∃ b o,a=some ⟨b,o,none⟩/\w.cell? ⟨b,o+i,none⟩=some (.int .u32 ((xs.getD i 0:Nat):Int))
theorem ah.kept {w w':World} {v:Value} {xs:List Nat} (h:ah w v xs) (hk:af w w'):ah w' v xs:=by
 obtain ⟨a,c,h1,h2,h3,h4,h5⟩:=h;exact ⟨a,c,h1,h2,h3,h4,fun i hi=>let ⟨b,o,h6,h7⟩:=h5 i hi;⟨b,o,h6,hk.cell h7⟩⟩
theorem ah.wd {w:World} {v:Value} {xs:List Nat} (h:ah w v xs):Wd xs:=by obtain ⟨_,_,_,_,_,h,_⟩:=h;exact h
theorem ah.len {w:World} {v:Value} {xs:List Nat} (h:ah w v xs):xs.length<=1099511627776:=by obtain ⟨_,_,_,_,h,_⟩:=h;exact h
theorem ah.shape {w:World} {v:Value} {xs:List Nat} (h:ah w v xs):∃ a c,v=.slice a xs.length c:=by obtain ⟨a,c,h,_⟩:=h;exact ⟨a,c,h⟩
theorem ah.nil (w:World):ah w (.slice none 0 0) []:=⟨none,0,rfl,⟨by simp,fun _=>rfl⟩,by simp,Wd.nil,fun i h=>by simp at h⟩
theorem ah.get {w:World} {a:Option Addr} {n c:Nat} {xs:List Nat} (h:ah w (.slice a n c) xs) (i:Nat) (hi:i<xs.length):∃ b o,a=some ⟨b,o,none⟩/\w.cell? ⟨b,o+i,none⟩=some (.int .u32 ((xs.getD i 0:Nat):Int)):=by
 obtain ⟨a',c',h1,_,_,_,h5⟩:=h;injection h1 with h1
 subst h1;exact h5 i hi
theorem ah.take {w:World} {a:Option Addr} {n c:Nat} {xs:List Nat} (h:ah w (.slice a n c) xs) (k:Nat) (hk:k<=xs.length):ah w (.slice a k c) (xs.take k):=by
 obtain ⟨a',c',h1,h2,h3,h4,h5⟩:=h;injection h1 with h1 h6 h7
 subst h1 h7;have hl:(xs.take k).length=k:=by rw [List.length_take];omega
 refine ⟨a,c,by rw [hl],⟨by omega,h2.2⟩,by omega,h4.take k,fun i hi=>?_⟩;obtain ⟨b,o,h8,h9⟩:=h5 i (by omega);exact ⟨b,o,h8,by rw [cw (by omega)];exact h9⟩
theorem ah.drop {w:World} {b o n c:Nat} {xs:List Nat} (h:ah w (.slice (some ⟨b,o,none⟩) n c) xs) (k:Nat) (hk:k<=xs.length):ah w (.slice (some ⟨b,o+k,none⟩) (n - k) (c - k)) (xs.drop k):=by
 obtain ⟨a',c',h1,h2,h3,h4,h5⟩:=h;injection h1 with h1 h6 h7
 subst h1 h7;have hl:(xs.drop k).length=n - k:=by rw [List.length_drop];omega
 refine ⟨_,c - k,by rw [hl],⟨by omega,fun h=>by cases h⟩,by omega,h4.drop k,fun i hi=>⟨b,o+k,rfl,?_⟩⟩;obtain ⟨b2,o2,h8,h9⟩:=h5 (k+i) (by omega);cases h8;rw [dw,Nat.add_assoc];exact h9
def bf (w:World) (B:Nat) (v:Value) (xs:List Nat):Prop :=
 w.ownsRow B 70 1 v xs.length (xs.map fp)/\xs.length<=1099511627776/\Wd xs
theorem bf.at {w:World} {B:Nat} {v:Value} {xs:List Nat} (h:bf w B v xs):ah w v xs:=by
 obtain ⟨⟨h1,h2⟩,h3,h3'⟩:=h;rcases h2 with ⟨rfl,h4⟩ | ⟨g,cap,cur,rfl,h5,h6,h7,h8,h9,h10⟩
 ·have:xs=[]:=List.eq_nil_of_length_eq_zero h4
  subst this;exact ah.nil w
 ·refine ⟨_,cap,rfl,⟨h7,fun h=>by cases h⟩,h3,h3',fun i hi=>⟨g,0,rfl,?_⟩⟩;have e1:(cur.toList.take (xs.length*1))[i]?=(xs.map fp)[i]?:=by rw [h10]
  rw [List.getElem?_take_of_lt (by omega)] at e1;simp only [World.cell?,h6,Nat.zero_add];simpa [hi,fp,List.getD_eq_getElem?_getD] using e1
theorem bf.kept {w w':World} {B:Nat} {v:Value} {xs:List Nat} (h:bf w B v xs) (hb:af w w'):bf w' B v xs:=⟨fH h.1 hb,h.2⟩
theorem bf.nil (w:World) (B:Nat):bf w B (.slice none 0 0) []:=⟨World.ownsRow_nil _ _ _ _,by simp,Wd.nil⟩
theorem bf.mono {w:World} {B B':Nat} {v:Value} {xs:List Nat} (h:bf w B v xs) (hb:B'<=B):bf w B' v xs:=⟨jr h.1 hb,h.2⟩
theorem ct (w:World) (B:Nat) (hB:B<=w.heap.size):bf (w.alloc (.cells #[] 70)) B (.slice (some ⟨w.heap.size,0,none⟩) 0 0) [] :=
 ⟨⟨by simp,.inr ⟨w.heap.size,0,#[],rfl,hB,heap_alloc_new w _,Nat.le_refl _,by unfold maxLen;omega,by simp,by simp⟩⟩,by simp,Wd.nil⟩
theorem cI:(Tryz.prog.info? 70).map (fun i=>(i.zero,i.size,i.bytes))=some (some (.int .u32 0),1,4):=by kernel_rfl
theorem nQ {ops:Array Oper} {rest:List Oper} {o:Oper} {a:Act} {Q:Exit->Act->World->Prop} {w:World} (hgd:o.guard=none) (s x:Operand)
  (ho:o.op=.call { callee:=.builtin .append,args:=#[s,x],argTypes:=#[27,27] }) (B:Nat) (v:Value) (xs:List Nat) (hs:a.eval s=v) (hown:bf w B v xs)
  (u:Value) (ys:List Nat) (hx:a.eval x=u) (hu:ah w u ys) (hl:xs.length+ys.length<=1099511627776) (hB:B<=w.heap.size)
  (h:∀ v' w',bf w' B v' (xs++ys)->Below B w w'->wpList Tryz.prog ops Q rest (a.put o.dst v') w'):wpList Tryz.prog ops Q (o :: rest) a w:=by
 obtain ⟨i0,hi0,hz0,hz1,hz2⟩:=info_parts cI;obtain ⟨ad,c,rfl,⟨hc,hcn⟩,hl2,hw,hcell⟩:=hu;cases ad with
 | none =>
  have hy:ys=[]:=by
   cases ys with
   | nil=>rfl
   | cons y ys=>obtain ⟨b,o,h,_⟩:=hcell 0 (by simp);cases h
  subst hy;rw [hcn rfl] at hx;refine wpList_append_own_none hgd s x 27 ho B 70 i0 1 Tryz.underlying27 hi0 v xs.length _ hs hown.1 hx ?_;exact h v w (by simpa using hown) (Below.refl _ _)
 | some ad =>
  refine wpList_append_own _ hgd s x 27 ho B 70 i0 _ 1 4 Tryz.underlying27 hi0 hz0 hz1 hz2 rfl (by decide) v xs.length _ hs hown.1 ad ys.length c (ys.map fp) hx (by simp) ?_ ?_ (by simp [maxLen];omega) (by omega) hB ?_
  ·intro j u hj
   have hj':j<ys.length:=by
    rcases Nat.lt_or_ge j ys.length with h | h
    ·exact h
    ·rw [List.getElem?_eq_none (by simpa using h)] at hj;cases hj
   obtain ⟨b,o,h5,h6⟩:=hcell j hj';cases h5;simp [hj',fp] at hj;subst hj;rw [show ({ block:=b,off:=o }:Addr).add j=⟨b,o+j,none⟩ by unfold Addr.add;split <;> simp_all,h6];simp [List.getD_eq_getElem?_getD,hj']
  ·intro u hu;obtain ⟨y,_,rfl⟩:=List.mem_map.1 hu;rfl
  ·intro v' w' h5 h6 _;exact h v' w' ⟨by simpa using h5,by simp;omega,hown.2.2.app hw⟩ (aW h6 hown.1 hB)
theorem iu {ops:Array Oper} {rest:List Oper} {o:Oper} {a:Act} {Q:Exit->Act->World->Prop} {w:World} (hgd:o.guard=none) (s x:Operand)
  (ho:o.op=.call { callee:=.builtin .append,args:=#[s,x],argTypes:=#[27,27] }) (B:Nat) (v:Value) (xs:List Nat) (hs:a.eval s=v) (hown:bf w B v xs)
  (ad:Addr) (y:Nat) (hx:a.eval x=.slice (some ad) 1 1) (hc:w.cell? ad=some (.int .u32 (y:Int))) (hy:y<4294967296) (hl:xs.length<1099511627776) (hB:B<=w.heap.size)
  (h:∀ v' w',bf w' B v' (xs++[y])->Below B w w'->wpList Tryz.prog ops Q rest (a.put o.dst v') w'):wpList Tryz.prog ops Q (o :: rest) a w:=by
 refine nN 27 70 _ 4 cI Tryz.underlying27 rfl hgd s x ho B v (xs.map fp) hs (by simpa using hown.1) ad _ hx hc rfl (by simp;omega) (by simp [maxLen];omega) hB ?_;intro v' w' h2 h3 h4;exact h v' w' ⟨by simpa [fp] using h2,by simp;omega,hown.2.2.app (Wd.cons hy Wd.nil)⟩ h4
theorem eN {w:World} {g:Nat} {xs:List Nat} {c:Nat} (h:ai w g 70 (xs.map fp)) (hc:xs.length<=c) (hl:xs.length<=1099511627776) (hw:Wd xs):ah w (.slice (some ⟨g,0,none⟩) xs.length c) xs :=
 ⟨_,c,rfl,⟨hc,fun h=>by cases h⟩,hl,hw,fun i hi=>⟨g,0,rfl,by have:=h.cell (i:=i) (by simpa using hi);simpa [fp,List.getD_eq_getElem?_getD,hi] using this⟩⟩
theorem bi {w:World} {g:Nat} {xs:List Nat} (h:ai w g 70 (xs.map fp)) (i x:Nat):ai (w.setCell ⟨g,i,none⟩ (.int .u32 (x:Int))) g 70 ((xs.set i x).map fp):=by
 have:=h.store i (fp x)
 rwa [<-List.map_set] at this
theorem bl {w:World} {g:Nat} {xs:List Nat} (h:ai w g 70 (xs.map fp)) (i:Nat) (hi:i<xs.length):w.cell? ⟨g,i,none⟩=some (.int .u32 ((xs.getD i 0:Nat):Int)):=by
 have:=h.cell (i:=i) (by simpa using hi);simpa [fp,List.getD_eq_getElem?_getD,hi] using this
theorem dX (v:Value) (xs:List Nat) (i:Nat) (w:World) (hv:ah w v xs):Calls Tryz.prog 239 #[v,.int .i64 i] w fun e w'=>e=.returned (.int .u64 ((xs.getD i 0:Nat):Int))/\w=w':=by
 obtain ⟨a,c,rfl⟩:=hv.shape;have hl:=hv.len;obtain ⟨n,hn⟩:∃ n,n=xs.length:=⟨_,rfl⟩;rw [<-hn] at hv hl⊢;by_cases h:i<n
 ·obtain ⟨b,o,rfl,hc⟩:=hv.get i (by omega);have hx:=hv.wd.getD i;obtain ⟨x,hx2⟩:∃ x,x=xs.getD i 0:=⟨_,rfl⟩;rw [<-hx2] at hc hx⊢;have hi:(i:Int)<(n:Int):=by omega
  clear hv hn hx2;go_enter Tryz.func239,Tryz.ntmps239;go_wp2;go_ret;exact ⟨rfl,rfl⟩
 ·have e:xs.getD i 0=0:=by simp [List.getD_eq_getElem?_getD,show xs.length<=i by omega]
  rw [e];have hi:¬ (i:Int)<(n:Int):=by omega
  clear hv hn e;go_enter Tryz.func239,Tryz.ntmps239;go_wp2;go_ret;exact ⟨rfl,rfl⟩
theorem cC (v:Value) (xs:List Nat) (i:Nat) (w:World) (hv:ah w v xs):Calls Tryz.prog 226 #[v,.int .i64 i] w fun e w'=>e=.returned (.int .u64 ((xs.getD i 0:Nat):Int))/\w=w':=by
 obtain ⟨a,c,rfl⟩:=hv.shape;have hl:=hv.len;obtain ⟨n,hn⟩:∃ n,n=xs.length:=⟨_,rfl⟩;rw [<-hn] at hv hl⊢;by_cases h:i<n
 ·obtain ⟨b,o,rfl,hc⟩:=hv.get i (by omega);have hx:=hv.wd.getD i;obtain ⟨x,hx2⟩:∃ x,x=xs.getD i 0:=⟨_,rfl⟩;rw [<-hx2] at hc hx⊢;have hi:(i:Int)<(n:Int):=by omega
  clear hv hn hx2;go_enter Tryz.func226,Tryz.ntmps226;go_wp2;go_ret;exact ⟨rfl,rfl⟩
 ·have e:xs.getD i 0=0:=by simp [List.getD_eq_getElem?_getD,show xs.length<=i by omega]
  rw [e];have hi:¬ (i:Int)<(n:Int):=by omega
  clear hv hn e;go_enter Tryz.func226,Tryz.ntmps226;go_wp2;go_ret;exact ⟨rfl,rfl⟩
theorem bh (v:Value) (xs:List Nat) (w:World) (hv:ah w v xs):Calls Tryz.prog 116 #[v] w fun e w'=>(∃ v',e=.returned v'/\ah w' v' (nw (nv xs)))/\af w w':=by
 obtain ⟨a,c,rfl⟩:=hv.shape;have hl:=hv.len;have HV:=ae hv;obtain ⟨n,hn⟩:∃ n,n=xs.length:=⟨_,rfl⟩;have HN:=ae hn;rw [<-hn] at hl⊢;have HV2:Hid (ah w (.slice a n c) xs):=ae (by rw [hn];exact HV.out);clear hv hn HV;go_enter Tryz.func116,Tryz.ntmps116;go_wp2;go_loopg [3] n (fun kx s3 wr=>∃ k:Nat,s3=.int .i64 k/\k<=n/\k<=kx/\Hid (∀ i,k<=i->xs.getD i 0=0)/\w=wr)
 case atStart=>exact ⟨n,rfl,Nat.le_refl _,Nat.le_refl _,ae (fun i hi=>by have:=HN.out;simp [List.getD_eq_getElem?_getD,show xs.length<=i by omega]),rfl⟩
 case round =>
  obtain ⟨k,rfl,hk,hkx,HZ,rfl⟩:=hrel;by_cases hk0:k=0
  ·have e0:nw (nv xs)=[]:=by
    rw [om HV2.out.wd (Nat.zero_le _) (fun i hi=>HZ.out i (by omega)) (.inl rfl)];rfl
   subst hk0;go_wp2;go_ret;exact ⟨⟨_,rfl,by rw [e0];exact ah.nil _⟩,af.refl _⟩
  ·obtain ⟨j,rfl⟩:∃ j,k=j+1:=⟨k - 1,by omega⟩;obtain ⟨b,o,rfl,hc⟩:=HV2.out.get j (by have:=HN.out;omega);obtain ⟨x,hx2⟩:∃ x,x=xs.getD j 0:=⟨_,rfl⟩;rw [<-hx2] at hc;have hp:((j+1:Nat):Int) > 0:=by omega
   have hj:((j+1:Nat):Int) - 1=(j:Int):=by omega
   have hjn:(j:Int)<(n:Int):=by omega
   by_cases hx0:x=0
   ·have hb:((x:Int) == 0)=true:=by simp [hx0]
    have HX:=ae (hx2.symm.trans hx0);clear hx2 hx0;go_wp2;go_roundg j
    case measure=>omega
    case rel=>exact ⟨j,rfl,by omega,Nat.le_refl _,ae (fun i hi=>by
     by_cases h:i=j
     ·rw [h];exact HX.out
     ·exact HZ.out i (by omega)),rfl⟩
   ·have hb:((x:Int) == 0)=false:=by simp;exact hx0
    have hle:j+1<=xs.length:=by have:=HN.out;omega
    have e0:nw (nv xs)=xs.take (j+1):=om HV2.out.wd hle HZ.out (.inr (by rw [Nat.add_sub_cancel,<-hx2];exact hx0));have HT:=ae (HV2.out.take (j+1) hle);have hlt:(xs.take (j+1)).length=j+1:=by rw [List.length_take];omega
    have HLT:=ae hlt;obtain ⟨m,hm⟩:∃ m,m=j+1:=⟨_,rfl⟩;rw [<-hm] at HT HLT hp hj hk e0;have E0:=ae e0;have hmc:m<=c:=by obtain ⟨_,_,h1,h2,_⟩:=HT.out;injection h1 with _ h3 h4;have:=HLT.out;omega
    have hneq:((m:Int) == 0)=false:=by simp;omega
    rw [<-hm];clear hx2 hx0 e0 hlt hm hle;go_wp2_with (at_builtin;refine nQ rfl _ _ rfl w.heap.size _ [] rfl (ct w _ (Nat.le_refl _)) _ _ rfl (HT.out.kept ((af.refl _).alloc _)) (by have:=HLT.out;simp;omega) (by simp) ?_;intro v7 w7 hown7 hb7;have O7:=ae hown7;have HB7:=ae hb7;clear hown7 hb7);go_ret;exact ⟨⟨_,rfl,by rw [E0.out];have:=O7.out.at;simpa using this⟩,((af.refl _).alloc _).app HB7.out⟩
theorem df (v:Value) (xs:List Nat) (w:World) (hv:ah w v xs):Calls Tryz.prog 227 #[v] w fun e w'=>(∃ v',e=.returned v'/\bf w' w.heap.size v' (nw (nv xs)))/\af w w':=by
 obtain ⟨a,c,rfl⟩:=hv.shape;have hl:=hv.len;have HV:=ae hv;obtain ⟨n,hn⟩:∃ n,n=xs.length:=⟨_,rfl⟩;have HN:=ae hn;rw [<-hn] at hl⊢;have HV2:Hid (ah w (.slice a n c) xs):=ae (by rw [hn];exact HV.out);clear hv hn HV;go_enter Tryz.func227,Tryz.ntmps227;go_wp2;go_loopg [3] n (fun kx s3 wr=>∃ k:Nat,s3=.int .i64 k/\k<=n/\k<=kx/\Hid (∀ i,k<=i->xs.getD i 0=0)/\w=wr)
 case atStart=>exact ⟨n,rfl,Nat.le_refl _,Nat.le_refl _,ae (fun i hi=>by have:=HN.out;simp [List.getD_eq_getElem?_getD,show xs.length<=i by omega]),rfl⟩
 case round =>
  obtain ⟨k,rfl,hk,hkx,HZ,rfl⟩:=hrel;have hle:k<=xs.length:=by have:=HN.out;omega
  have HT:=ae (HV2.out.take k hle);have hlt:(xs.take k).length=k:=by rw [List.length_take];omega
  have HLT:=ae hlt;have hkc:k<=c:=by obtain ⟨_,_,h1,h2,_⟩:=HT.out;injection h1 with _ h3 h4;omega
  clear hlt;by_cases hex:k=0\/xs.getD (k - 1) 0≠0
  ·have E0:=ae (om HV2.out.wd hle HZ.out hex);have HFIN:Hid (∀ (g cc:Nat),True):=ae fun _ _=>trivial
   clear HFIN;by_cases hk0:k=0
   ·have hp:¬ (k:Int) > 0:=by omega
    have hcn:a=none->c=0:=by obtain ⟨_,_,h1,h2,_⟩:=HV2.out;injection h1 with h1 _ h3;subst h1 h3;exact h2.2
    subst hk0;clear hex;cases a with
    | none =>
     have:=hcn rfl;subst this;go_wp2;go_ret;exact ⟨⟨_,rfl,by rw [E0.out];exact ct w _ (Nat.le_refl _)⟩,(af.refl _).alloc _⟩
    | some a =>
     clear hcn;go_wp2;go_ret;exact ⟨⟨_,rfl,by rw [E0.out];exact ct w _ (Nat.le_refl _)⟩,(af.refl _).alloc _⟩
   ·obtain ⟨b,o,rfl,hc⟩:=HV2.out.get (k - 1) (by omega);have hx0:=hex.resolve_left hk0;obtain ⟨x,hx2⟩:∃ x,x=xs.getD (k - 1) 0:=⟨_,rfl⟩;rw [<-hx2] at hc hx0;obtain ⟨j,hj2⟩:∃ j,j=k - 1:=⟨_,rfl⟩;rw [<-hj2] at hc;have hp:(k:Int) > 0:=by omega
    have hj:(k:Int) - 1=(j:Int):=by omega
    have hjn:(j:Int)<(n:Int):=by omega
    have hjn2:j<n:=by omega
    have hb:((x:Int) == 0)=false:=by simp;exact hx0
    clear hex hx2 hx0 hj2;go_wp2_with (at_builtin;refine nQ rfl _ _ rfl w.heap.size _ [] rfl (ct w _ (Nat.le_refl _)) _ _ rfl (HT.out.kept ((af.refl _).alloc _)) (by have:=HLT.out;simp;omega) (by simp) ?_;intro v7 w7 hown7 hb7;have O7:=ae hown7;have HB7:=ae hb7;clear hown7 hb7);go_ret;exact ⟨⟨_,rfl,by rw [E0.out];have:=O7.out;simpa using this⟩,((af.refl _).alloc _).app HB7.out⟩
  ·have hk0:k≠0:=fun h=>hex (.inl h)
   have hx0:xs.getD (k - 1) 0=0:=Classical.byContradiction fun h=>hex (.inr h)
   obtain ⟨b,o,rfl,hc⟩:=HV2.out.get (k - 1) (by omega);rw [hx0] at hc;obtain ⟨j,hj2⟩:∃ j,j=k - 1:=⟨_,rfl⟩;rw [<-hj2] at hc hx0;have hp:(k:Int) > 0:=by omega
   have hj:(k:Int) - 1=(j:Int):=by omega
   have hjn:(j:Int)<(n:Int):=by omega
   have hjn2:j<n:=by omega
   have hjk:j+1=k:=by omega
   have HX:=ae hx0;clear hex hx0 hj2;go_wp2;go_roundg j
   case measure=>omega
   case rel=>exact ⟨j,by go_num,by omega,Nat.le_refl _,ae (fun i hi=>by
    by_cases h:i=j
    ·rw [h];exact HX.out
    ·exact HZ.out i (by omega)),rfl⟩
def cU (a b:Nat):Int:=if a<b then -1 else if b<a then 1 else 0
theorem ff {a b:Nat} (h:a<b):cU a b=-1:=by unfold cU;rw [if_pos h]
theorem eJ {a b:Nat} (h:b<a):cU a b=1:=by unfold cU;rw [if_neg (by omega),if_pos h]
theorem fe {a b:Nat} (h:a=b):cU a b=0:=by unfold cU;rw [if_neg (by omega),if_neg (by omega)]
theorem dM (va vb:Value) (xs ys:List Nat) (w:World) (ha:ah w va xs) (hb:ah w vb ys):Calls Tryz.prog 69 #[va,vb] w fun e w'=>e=.returned (.int .i64 (cU (nv xs) (nv ys)))/\af w w':=by
 have HA:=ae (fun W (hk:af w W)=>bh va xs W (ha.kept hk));have HB:=ae (fun W (hk:af w W)=>bh vb ys W (hb.kept hk));obtain ⟨a0,c0,rfl⟩:=ha.shape;obtain ⟨a1,c1,rfl⟩:=hb.shape;obtain ⟨m,hm⟩:∃ m,m=nv xs:=⟨_,rfl⟩;obtain ⟨n,hn⟩:∃ n,n=nv ys:=⟨_,rfl⟩;rw [<-hm] at HA⊢;rw [<-hn] at HB⊢;generalize xs.length=l0 at *;generalize ys.length=l1 at *;clear ha hb hm hn;go_enter Tryz.func69,Tryz.ntmps69;go_wp2_with fail;refine (HA.out _ (af.refl _)).mono ?_;rintro e w1 ⟨⟨v1,rfl,hv1⟩,hk1⟩;go_wp2_with fail;refine (HB.out _ hk1).mono ?_;rintro e w2 ⟨⟨v2,rfl,hv2⟩,hk2⟩;have hv1':=hv1.kept hk2;have HK:=ae (hk1.trans hk2);obtain ⟨a2,c2,rfl⟩:=hv1'.shape;obtain ⟨a3,c3,rfl⟩:=hv2.shape;have H1:=ae hv1';have H2:=ae hv2;obtain ⟨p,hp⟩:∃ p,p=(nw m).length:=⟨_,rfl⟩;obtain ⟨q,hq⟩:∃ q,q=(nw n).length:=⟨_,rfl⟩;have hp9:p<=1099511627776:=by rw [hp];exact hv1'.len
 have hq9:q<=1099511627776:=by rw [hq];exact hv2.len
 rw [<-hp] at H1⊢;rw [<-hq] at H2⊢;have HP:=ae hp;have HQ:=ae hq;clear hv1 hv1' hv2 hk1 hk2 hp hq;rcases Nat.lt_trichotomy p q with hlt | heq | hgt
 ·have hc:=ff (jT (m:=m) (n:=n) (by have:=HP.out;have:=HQ.out;omega));have HC:=ae hc;have b1:((p:Int) != (q:Int))=true:=by simp;omega
  have b2:decide (p<q)=true:=by simpa using hlt
  clear hc;go_wp2;go_ret;exact ⟨by rw [HC.out];first | done | rfl,HK.out⟩
 ·subst heq;have b1:((p:Int) != (p:Int))=false:=by simp
  go_wp2;go_loopg [5] p (fun kx s5 wr=>∃ k:Nat,s5=.int .i64 ((k:Int) - 1)/\k<=p/\k<=kx/\Hid (∀ i,k<=i->(nw m).getD i 0=(nw n).getD i 0)/\Hid (af w2 wr))
  case atStart=>exact ⟨p,rfl,Nat.le_refl _,Nat.le_refl _,ae (fun i hi=>by
   have h1:=HP.out;have h2:=HQ.out;simp [List.getD_eq_getElem?_getD,show (nw m).length<=i by omega,show (nw n).length<=i by omega]),ae (af.refl _)⟩
  case round =>
   obtain ⟨k,rfl,hk,hkx,HD,HR⟩:=hrel;by_cases hk0:k=0
   ·subst hk0
    have hc:=fe (show m=n by
     have h:=wX (HP.out.symm.trans HQ.out) (fun i=>HD.out i (by omega));have h1:=am m;rw [h,am] at h1;exact h1.symm)
    have HC:=ae hc;clear hc;go_wp2;go_ret;exact ⟨by rw [HC.out];first | done | rfl,by first | exact HK.out.trans HR.out | exact (HK.out.trans HR.out).drew | exact ((HK.out.trans HR.out).drewN _).drewN _⟩
   ·obtain ⟨j,rfl⟩:∃ j,k=j+1:=⟨k - 1,by omega⟩;have hpj:=HP.out;have hqj:=HQ.out;obtain ⟨b,o,rfl,hx⟩:=(H1.out.kept HR.out).get j (by omega);obtain ⟨b',o',rfl,hy⟩:=(H2.out.kept HR.out).get j (by omega);have hxw:=(dN m).getD j;have hyw:=(dN n).getD j
    have HLT:Hid ((nw m).getD j 0<(nw n).getD j 0->m<n):=ae fun h=>by
     have:=pU (dN m) (hpj.symm.trans hqj) (by omega) (fun i hi=>HD.out i (by omega)) h
     rwa [am,am] at this
    have HGT:Hid ((nw n).getD j 0<(nw m).getD j 0->n<m):=ae fun h=>by
     have:=pU (dN n) (hqj.symm.trans hpj) (by omega) (fun i hi=>(HD.out i (by omega)).symm) h
     rwa [am,am] at this
    have HEQ:Hid ((nw m).getD j 0=(nw n).getD j 0->∀ i,j<=i->(nw m).getD i 0=(nw n).getD i 0):=ae fun h i hi=>by
     by_cases e:i=j
     ·rw [e];exact h
     ·exact HD.out i (by omega)
    generalize (nw m).getD j 0=x at *;generalize (nw n).getD j 0=y at *;have e1:((j+1:Nat):Int) - 1=(j:Int):=by omega
    rw [e1];have hj0:(0:Int)<=(j:Int):=by omega
    have hjn:(j:Int)<(p:Int):=by omega
    clear hpj hqj e1;rcases Nat.lt_trichotomy x y with h | h | h
    ·have HC:=ae (ff (HLT.out h));have h':(x:Int)<(y:Int):=by omega
     go_wp2;go_region;all_goals go_wp2
     all_goals go_ret
     all_goals exact ⟨by rw [HC.out];first | done | rfl,by first | exact HK.out.trans HR.out | exact (HK.out.trans HR.out).drew | exact ((HK.out.trans HR.out).drewN _).drewN _⟩
    ·subst h;have h':¬ (x:Int)<(x:Int):=by omega
     have hr:=ae (HEQ.out rfl);go_wp2;go_quiet (fail);go_wp2;go_quiet (fail);go_wp2;go_roundg j
     case measure=>omega
     case rel=>exact ⟨j,rfl,by omega,Nat.le_refl _,hr,ae (by first | exact HR.out.drewN _ | exact (HR.out.drewN _).drewN _)⟩
    ·have HC:=ae (eJ (HGT.out h));have h':¬ (x:Int)<(y:Int):=by omega
     have h'':(y:Int)<(x:Int):=by omega
     go_wp2;go_quiet (fail);go_wp2;go_quiet (fail);go_wp2;go_ret;exact ⟨by rw [HC.out];first | done | rfl,by first | exact HK.out.trans HR.out | exact (HK.out.trans HR.out).drew | exact ((HK.out.trans HR.out).drewN _).drewN _⟩
 ·have hc:=eJ (jT (m:=n) (n:=m) (by have:=HP.out;have:=HQ.out;omega));have HC:=ae hc;have b1:((p:Int) != (q:Int))=true:=by simp;omega
  have b2:decide (p<q)=false:=by simp;omega
  clear hc;go_wp2;go_ret;exact ⟨by rw [HC.out];first | done | rfl,HK.out⟩
theorem cW {w:World} {g n:Nat} (h:ai w g 70 (List.replicate n (.int .u32 0))):ai w g 70 ((List.replicate n 0).map fp):=by
 simpa [fp] using h
theorem oS {L xs ys:List Nat} {i c p:Nat} (h:nv (L.take i)+c*4294967296^i=nv (xs.take i)+nv (ys.take i)) (hi:i=p) (hx:xs.length+1<=p) (hy:ys.length+1<=p) (hL:L.length=p) (wx:Wd xs) (wy:Wd ys):nv L=nv xs+nv ys:=by
 subst hi;rw [aC L _ (by omega),aC xs _ (by omega),aC ys _ (by omega)] at h;have h1:=Nat.lt_of_lt_of_le (dl wx) (Nat.pow_le_pow_right (by omega) (show xs.length<=i - 1 by omega));have h2:=Nat.lt_of_lt_of_le (dl wy) (Nat.pow_le_pow_right (by omega) (show ys.length<=i - 1 by omega));have h3:4294967296^i=4294967296^(i - 1)*4294967296:=by rw [<-Nat.pow_succ,show (i - 1).succ=i by omega]
 have hc:c=0:=by
  rcases Nat.eq_zero_or_pos c with h0 | h0
  ·exact h0
  ·have:1*4294967296^i<=c*4294967296^i:=Nat.mul_le_mul_right _ h0
   omega
 subst hc;omega
theorem wT (va vb:Value) (xs ys:List Nat) (w:World) (ha:ah w va xs) (hb:ah w vb ys) (hla:xs.length<=549755813888) (hlb:ys.length<=549755813888) :
  Calls Tryz.prog 178 #[va,vb] w fun e w'=>(∃ v',e=.returned v'/\ah w' v' (nw (nv xs+nv ys)))/\af w w':=by
 have HA:=ae (fun W (hk:af w W) (i:Nat)=>dX va xs i W (ha.kept hk));have HB:=ae (fun W (hk:af w W) (i:Nat)=>dX vb ys i W (hb.kept hk));have HWA:=ae ha.wd;have HWB:=ae hb.wd;obtain ⟨a0,c0,rfl⟩:=ha.shape;obtain ⟨a1,c1,rfl⟩:=hb.shape;obtain ⟨l0,h0⟩:∃ l0,l0=xs.length:=⟨_,rfl⟩;obtain ⟨l1,h1⟩:∃ l1,l1=ys.length:=⟨_,rfl⟩;rw [<-h0] at HA hla⊢;rw [<-h1] at HB hlb⊢;have H0:=ae h0;have H1:=ae h1;obtain ⟨m,hm⟩:∃ m,m=max l0 l1:=⟨_,rfl⟩;have hm9:m<=549755813888:=by omega
 have e0:max (l0:Int) (l1:Int)=(m:Int):=by omega
 obtain ⟨p,hp⟩:∃ p,p=m+1:=⟨_,rfl⟩;have e1:(m:Int)+1=(p:Int):=by omega
 have hp9:p<=549755813889:=by omega
 have HP:Hid (l0+1<=p/\l1+1<=p):=ae (by omega);clear ha hb h0 h1 hm hp;go_enter Tryz.func178,Tryz.ntmps178;go_wp2_with (refine cX 27 70 (.int .u32 0) 4 cI Tryz.underlying27 rfl rfl _ _ rfl p rfl rfl (by omega) (by unfold maxLen;omega) ?_;intro w1 hr1 hk1);have HR1:=ae (cW hr1);have HK1:=ae hk1;clear hr1 hk1;go_loopg [6,17] p (fun kx s6 s17 wr=>∃ (i c:Nat) (L:List Nat),s6=.int .u64 c/\s17=.int .i64 i/\i<=p/\p - i<=kx/\c<=1/\Hid (ai wr w.heap.size 70 (L.map fp))/\Hid (L.length=p/\Wd L)/\Hid (nv (L.take i)+c*4294967296^i=nv (xs.take i)+nv (ys.take i))/\Hid (af w wr))
 case atStart=>exact ⟨0,0,List.replicate p 0,rfl,rfl,Nat.zero_le _,by omega,by omega,HR1,ae ⟨by simp,Wd.zeros _⟩,ae (by simp [cz]),HK1⟩
 case round =>
  obtain ⟨i,c,L,rfl,rfl,hi,hkx,hc,HR,HL,HI,HK⟩:=hrel;by_cases hlt:i<p
  ·have hx:=HWA.out.getD i;have hy:=HWB.out.getD i;have HX:=ae (HA.out wr HK.out i);have HY:=ae (HB.out wr HK.out i);have f:=HR.out.free i;have hst:=bl HR.out i (by have:=HL.out.1;omega)
   have HST:Hid (∀ s,s=c+xs.getD i 0+ys.getD i 0->(nv (L.take i)+(s % 4294967296)*4294967296^i)+(s / 4294967296)*4294967296^(i+1)=nv (xs.take (i+1))+nv (ys.take (i+1))):=ae fun s hs=>by
    have:=kn HI.out hs;rw [ap,ap,<-this,Nat.pow_succ,Nat.mul_comm (4294967296^i)]
   generalize xs.getD i 0=x at *;generalize ys.getD i 0=y at *;generalize L.getD i 0=z at *;have hkn:(i:Int)<(p:Int):=by omega
   obtain ⟨s,hs⟩:∃ s,s=c+x+y:=⟨_,rfl⟩;have hs9:s<18446744073709551616:=by omega
   obtain ⟨r,hr⟩:∃ r,r=s % 4294967296:=⟨_,rfl⟩;obtain ⟨q,hq⟩:∃ q,q=s / 4294967296:=⟨_,rfl⟩;have hr9:r<4294967296:=by omega
   have hq9:q<=1:=by omega
   have HSS:=ae (HST.out s hs);rw [<-hr,<-hq] at HSS;have e3:(c:Int)+((x:Int)+(y:Int))=(s:Int):=by omega
   have e6:(s:Int) / 4294967296=(q:Int):=by omega
   have e5:IntKind.u32.wrap (s:Int)=(r:Int):=by rw [IntKind.wrap_u32];omega
   clear hs hr hq HST;go_wp2_with (first | (go_at_call 239;(with_reducible refine HX.out.mono ?_);rintro e w2 ⟨rfl,rfl⟩) | (go_at_call 239;(with_reducible refine HY.out.mono ?_);rintro e w2 ⟨rfl,rfl⟩));go_roundg (p - (i+1))
   case measure=>omega
   case rel=>exact ⟨i+1,q,L.set i r,rfl,by go_num,by omega,Nat.le_refl _,hq9,ae (bi HR.out i r),ae ⟨by rw [List.length_set];exact HL.out.1,HL.out.2.set i r hr9⟩,ae (by rw [dz (by have:=HL.out.1;omega)];exact HSS.out),ae (HK.out.store (Nat.le_refl _) i _)⟩
  ·have hie:i=p:=by omega
   have HV:Hid (nv L=nv xs+nv ys):=ae (oS HI.out hie (by have:=HP.out;have:=H0.out;omega) (by have:=HP.out;have:=H1.out;omega) HL.out.1 HWA.out HWB.out)
   have HT:Hid (Calls Tryz.prog 116 #[.slice (some ⟨w.heap.size,0,none⟩) p p] wr fun e w'=>(∃ v',e=.returned v'/\ah w' v' (nw (nv L)))/\af wr w'):=ae (by
    have h:=eN HR.out (c:=p) (by rw [HL.out.1];exact Nat.le_refl _) (by rw [HL.out.1];omega) HL.out.2;rw [HL.out.1] at h;exact bh _ _ _ h)
   clear hie;go_wp2_with (go_at_call 116;refine HT.out.mono ?_;rintro e w2 ⟨⟨v2,rfl,hv2⟩,hk2⟩;have HV2:=ae hv2;clear hv2);obtain ⟨a2,c2,rfl⟩:=HV2.out.shape;go_ret;exact ⟨⟨_,rfl,by rw [<-HV.out];exact HV2.out⟩,HK.out.trans hk2⟩
theorem qI {L xs ys:List Nat} {i b p:Nat} (h:nv (L.take i)+nv (ys.take i)=nv (xs.take i)+b*4294967296^i) (hi:i=p) (hx:xs.length=p) (hL:L.length=p) (wL:Wd L) (wx:Wd xs) (hle:nv ys<=nv xs):nv L=nv xs - nv ys:=by
 subst hi;have hxl:=dl wx;have hLl:=dl wL;rw [hx] at hxl;rw [hL] at hLl;have hy:=(iV (l:=ys) (k:=i) (by omega)).2;rw [aC L _ (by omega),aC xs _ (by omega),hy] at h
 have hb:b=0:=by
  rcases Nat.eq_zero_or_pos b with h0 | h0
  ·exact h0
  ·have:1*4294967296^i<=b*4294967296^i:=Nat.mul_le_mul_right _ h0
   omega
 subst hb;omega
theorem fP {x y b:Nat} (hx:x<4294967296) (hy:y<4294967296) (hb:b<=1):∃ o b' D:Nat,o<4294967296/\b'<=1/\D<18446744073709551616/\o+y+b=x+b'*4294967296/\D % 4294967296=o/\D / 9223372036854775808=b' /\
  ((y+b<=x/\(x:Int) - y - b=D)\/(x<y/\∃ D1:Nat,(x:Int) - y+18446744073709551616=D1/\(D1:Int) - b=D)\/(x=y/\b=1/\(x:Int) - y - b+18446744073709551616=D)):=by
 by_cases h1:y+b<=x
 ·exact ⟨x - y - b,0,x - y - b,by omega,by omega,by omega,by omega,by omega,by omega,.inl ⟨h1,by omega⟩⟩
 ·by_cases h2:x<y
  ·exact ⟨4294967296+x - y - b,1,18446744073709551616+x - y - b,by omega,by omega,by omega,by omega,by omega,by omega,.inr (.inl ⟨h2,18446744073709551616+x - y,by omega,by omega⟩)⟩
  ·exact ⟨4294967295,1,18446744073709551615,by omega,by omega,by omega,by omega,by omega,by omega,.inr (.inr ⟨by omega,by omega,by omega⟩)⟩
theorem km {z:Int} {D:Nat} (h:z+18446744073709551616=D) (hz:z<0):IntKind.u64.wrap z=(D:Int):=by rw [IntKind.wrap_u64];omega
theorem pS (va vb:Value) (xs ys:List Nat) (w:World) (ha:ah w va xs) (hb:ah w vb ys) (hle:nv ys<=nv xs) :
  Calls Tryz.prog 179 #[va,vb] w fun e w'=>(∃ v',e=.returned (.tuple #[v',.nilIface])/\ah w' v' (nw (nv xs - nv ys)))/\af w w':=by
 have HA:=ae (fun W (hk:af w W) (i:Nat)=>dX va xs i W (ha.kept hk));have HB:=ae (fun W (hk:af w W) (i:Nat)=>dX vb ys i W (hb.kept hk));have HCMP:=ae (dM va vb xs ys w ha hb);have HWA:=ae ha.wd;have HWB:=ae hb.wd;have hc0:0<=cU (nv xs) (nv ys):=by unfold cU;split <;> (try split) <;> omega
 obtain ⟨cv,hcv⟩:∃ cv,cv=cU (nv xs) (nv ys):=⟨_,rfl⟩;rw [<-hcv] at HCMP hc0;obtain ⟨a0,c0,rfl⟩:=ha.shape;obtain ⟨a1,c1,rfl⟩:=hb.shape;obtain ⟨p,h0⟩:∃ p,p=xs.length:=⟨_,rfl⟩;have hp9:p<=1099511627776:=by rw [h0];exact ha.len
 rw [<-h0] at HA HCMP⊢;generalize ys.length=l1 at *;have H0:=ae h0;have HLE:=ae hle;have hc1:¬ cv<0:=by omega
 clear ha hb h0 hle hcv hc0;go_enter Tryz.func179,Tryz.ntmps179;go_wp2_with fail;refine HCMP.out.mono ?_;rintro e w0 ⟨rfl,hk0⟩;have HK0:=ae hk0;have hsz0:=hk0.size;clear hk0;go_wp2_with (refine cX 27 70 (.int .u32 0) 4 cI Tryz.underlying27 rfl rfl _ _ rfl p rfl rfl (by omega) (by unfold maxLen;omega) ?_;intro w1 hr1 hk1);have HR1:=ae (cW hr1);have HK1:=ae (HK0.out.trans hk1);clear hr1 hk1;go_loopg [7,20] p (fun kx s7 s20 wr=>∃ (i c:Nat) (L:List Nat),s7=.int .u64 c/\s20=.int .i64 i/\i<=p/\p - i<=kx/\c<=1/\Hid (ai wr w0.heap.size 70 (L.map fp))/\Hid (L.length=p/\Wd L)/\Hid (nv (L.take i)+nv (ys.take i)=nv (xs.take i)+c*4294967296^i)/\Hid (af w wr))
 case atStart=>exact ⟨0,0,List.replicate p 0,rfl,rfl,Nat.zero_le _,by omega,by omega,HR1,ae ⟨by simp,Wd.zeros _⟩,ae (by simp [cz]),HK1⟩
 case round =>
  obtain ⟨i,c,L,rfl,rfl,hi,hkx,hc,HR,HL,HI,HK⟩:=hrel;by_cases hlt:i<p
  ·have hx:=HWA.out.getD i;have hy:=HWB.out.getD i;have HX:=ae (HA.out wr HK.out i);have HY:=ae (HB.out wr HK.out i);have f:=HR.out.free i;have hst:=bl HR.out i (by have:=HL.out.1;omega)
   have HST:Hid (∀ o b',o+ys.getD i 0+c=xs.getD i 0+b'*4294967296->(nv (L.take i)+o*4294967296^i)+nv (ys.take (i+1))=nv (xs.take (i+1))+b'*4294967296^(i+1)):=ae fun o b' hs=>by
    have:=qJ HI.out hs;rw [ap,ap,this,Nat.pow_succ,Nat.mul_comm (4294967296^i)]
   generalize xs.getD i 0=x at *;generalize ys.getD i 0=y at *;generalize L.getD i 0=z at *;have hkn:(i:Int)<(p:Int):=by omega
   obtain ⟨o,b',D,ho,hb',hD,hob,hm,hd,hcs⟩:=fP hx hy hc;have HSS:=ae (HST.out o b' hob);have e5:IntKind.u32.wrap (D:Int)=(o:Int):=by rw [IntKind.wrap_u32];omega
   have e6:(D:Int) / 9223372036854775808=(b':Int):=by omega
   clear HST hob hm hd;rcases hcs with ⟨h1,h2⟩ | ⟨h1,D1,h2,h3⟩ | ⟨h1,h2,h3⟩
   ·go_wp2_with (first | (go_at_call 239;(with_reducible refine HX.out.mono ?_);rintro e w2 ⟨rfl,rfl⟩) | (go_at_call 239;(with_reducible refine HY.out.mono ?_);rintro e w2 ⟨rfl,rfl⟩));go_roundg (p - (i+1))
    case measure=>omega
    case rel=>exact ⟨i+1,b',L.set i o,rfl,by go_num,by omega,Nat.le_refl _,hb',ae (bi HR.out i o),ae ⟨by rw [List.length_set];exact HL.out.1,HL.out.2.set i o ho⟩,ae (by rw [dz (by have:=HL.out.1;omega)];exact HSS.out),ae (HK.out.store hsz0 i _)⟩
   ·have e1:=km h2 (by omega);have hD1:D1<18446744073709551616:=by omega
    clear h2;go_wp2_with (first | (go_at_call 239;(with_reducible refine HX.out.mono ?_);rintro e w2 ⟨rfl,rfl⟩) | (go_at_call 239;(with_reducible refine HY.out.mono ?_);rintro e w2 ⟨rfl,rfl⟩));go_roundg (p - (i+1))
    case measure=>omega
    case rel=>exact ⟨i+1,b',L.set i o,rfl,by go_num,by omega,Nat.le_refl _,hb',ae (bi HR.out i o),ae ⟨by rw [List.length_set];exact HL.out.1,HL.out.2.set i o ho⟩,ae (by rw [dz (by have:=HL.out.1;omega)];exact HSS.out),ae (HK.out.store hsz0 i _)⟩
   ·have e1:=km h3 (by omega);have g1:x<=y:=by omega
    have g2:y<=x:=by omega
    have g3:1<=c:=by omega
    clear h1 h2 h3;go_wp2_with (first | (go_at_call 239;(with_reducible refine HX.out.mono ?_);rintro e w2 ⟨rfl,rfl⟩) | (go_at_call 239;(with_reducible refine HY.out.mono ?_);rintro e w2 ⟨rfl,rfl⟩));go_roundg (p - (i+1))
    case measure=>omega
    case rel=>exact ⟨i+1,b',L.set i o,rfl,by go_num,by omega,Nat.le_refl _,hb',ae (bi HR.out i o),ae ⟨by rw [List.length_set];exact HL.out.1,HL.out.2.set i o ho⟩,ae (by rw [dz (by have:=HL.out.1;omega)];exact HSS.out),ae (HK.out.store hsz0 i _)⟩
  ·have hie:i=p:=by omega
   have HV:Hid (nv L=nv xs - nv ys):=ae (qI HI.out hie H0.out.symm HL.out.1 HL.out.2 HWA.out HLE.out)
   have HT:Hid (Calls Tryz.prog 116 #[.slice (some ⟨w0.heap.size,0,none⟩) p p] wr fun e w'=>(∃ v',e=.returned v'/\ah w' v' (nw (nv L)))/\af wr w'):=ae (by
    have h:=eN HR.out (c:=p) (by rw [HL.out.1];exact Nat.le_refl _) (by rw [HL.out.1];omega) HL.out.2;rw [HL.out.1] at h;exact bh _ _ _ h)
   clear hie;go_wp2_with (go_at_call 116;refine HT.out.mono ?_;rintro e w2 ⟨⟨v2,rfl,hv2⟩,hk2⟩;have HV2:=ae hv2;clear hv2);obtain ⟨a2,c2,rfl⟩:=HV2.out.shape;go_ret2;exact ⟨⟨_,rfl,by rw [<-HV.out];exact HV2.out⟩,HK.out.trans hk2⟩
theorem nh {L ys:List Nat} {c M x i k s:Nat} (h:nv L+c*4294967296^(i+k)=M+x*(nv (ys.take k)*4294967296^i)) (hL:i+k<L.length) (hs:s=c+x*ys.getD k 0+L.getD (i+k) 0) :
  nv (L.set (i+k) (s % 4294967296))+(s / 4294967296)*4294967296^(i+(k+1))=M+x*(nv (ys.take (k+1))*4294967296^i):=by
 have h1:=wP h hs _ (oj L (i+k) (s % 4294967296) hL)
 have h2:nv (ys.take (k+1))*4294967296^i=nv (ys.take k)*4294967296^i+ys.getD k 0*4294967296^(i+k):=by
  rw [ap,Nat.add_mul,Nat.mul_assoc,<-Nat.pow_add,Nat.add_comm k i]
 rw [h2,<-h1,<-Nat.add_assoc,Nat.pow_succ,Nat.mul_comm (4294967296^(i+k)) 4294967296]
theorem yN {L xs ys:List Nat} {c i:Nat} {N:Nat} (h:nv L+c*4294967296^(i+ys.length)=N+xs.getD i 0*(nv (ys.take ys.length)*4294967296^i)) (hN:N=nv (xs.take i)*nv ys) (hL:i+ys.length<L.length) (h0:L.getD (i+ys.length) 0=0) :
  nv (L.set (i+ys.length) c)=nv (xs.take (i+1))*nv ys:=by
 have h1:=oj L (i+ys.length) c hL;rw [h0,Nat.zero_mul,Nat.add_zero] at h1;rw [h1,h,aC ys _ (Nat.le_refl _),hN,ap,Nat.add_mul,Nat.mul_assoc (xs.getD i 0),Nat.mul_comm (nv ys)]
theorem kh {c x y w:Nat} (hc:c<4294967296) (hx:x<4294967296) (hy:y<4294967296) (hw:w<4294967296):c+x*y+w<18446744073709551616/\x*y<=18446744065119617025/\(c+x*y+w) / 4294967296<4294967296:=by
 have h1:=uy hc hx hy hw;refine ⟨h1,Nat.mul_le_mul (show x<=4294967295 by omega) (show y<=4294967295 by omega),Nat.div_lt_of_lt_mul (by omega)⟩
theorem qE {L:List Nat} {j p x:Nat} (h:∀ q,p<=q->L.getD q 0=0) (hj:j<p):∀ q,p<=q->(L.set j x).getD q 0=0:=fun q hq=>by rw [cV (by omega)];exact h q hq
theorem cZ (va vb:Value) (xs ys:List Nat) (w:World) (ha:ah w va xs) (hb:ah w vb ys) (hla:xs.length<=274877906944) (hlb:ys.length<=274877906944) :
  Calls Tryz.prog 156 #[va,vb] w fun e w'=>(∃ v',e=.returned v'/\ah w' v' (nw (nv xs*nv ys)))/\af w w':=by
 have HA:=ae ha;have HB:=ae hb;obtain ⟨a0,c0,rfl⟩:=ha.shape;obtain ⟨a1,c1,rfl⟩:=hb.shape;obtain ⟨l0,h0⟩:∃ l0,l0=xs.length:=⟨_,rfl⟩;obtain ⟨l1,h1⟩:∃ l1,l1=ys.length:=⟨_,rfl⟩;rw [<-h0] at HA hla⊢;rw [<-h1] at HB hlb⊢;have H0:=ae h0;have H1:=ae h1;obtain ⟨p,hp⟩:∃ p,p=l0+l1:=⟨_,rfl⟩;have e1:(l0:Int)+(l1:Int)=(p:Int):=by omega
 have hp9:p<=549755813888:=by omega
 have HP:Hid (p=l0+l1):=ae hp;clear ha hb h0 h1 hp;go_enter Tryz.func156,Tryz.ntmps156;go_wp2_with (refine cX 27 70 (.int .u32 0) 4 cI Tryz.underlying27 rfl rfl _ _ rfl p rfl rfl (by omega) (by unfold maxLen;omega) ?_;intro w1 hr1 hk1);have HR1:=ae (cW hr1);have HK1:=ae hk1;clear hr1 hk1;go_loopg [19] l0 (fun kx s19 wr=>∃ (i:Nat) (L:List Nat),s19=.int .i64 i/\i<=l0/\l0 - i<=kx/\Hid (ai wr w.heap.size 70 (L.map fp))/\Hid (L.length=p/\Wd L)/\Hid (nv L=nv (xs.take i)*nv ys/\∀ q,i+l1<=q->L.getD q 0=0)/\Hid (af w wr))
 case atStart=>exact ⟨0,List.replicate p 0,rfl,Nat.zero_le _,by omega,HR1,ae ⟨by simp,Wd.zeros _⟩,ae ⟨by rw [jo];simp [cz],fun q _=>by simp [List.getD_eq_getElem?_getD,List.getElem?_replicate];split <;> rfl⟩,HK1⟩
 case round =>
  obtain ⟨wo,rfl⟩:∃ wo:World,wo=wr:=⟨_,rfl⟩;obtain ⟨i,L,rfl,hi,hkx,HR,HL,HI,HK⟩:=hrel;by_cases hlt:i<l0
  ·obtain ⟨b,o,rfl,hcx⟩:=(HA.out.kept HK.out).get i (by have:=H0.out;omega);have hx:=HA.out.wd.getD i;obtain ⟨x,hxx⟩:∃ x,x=xs.getD i 0:=⟨_,rfl⟩;rw [<-hxx] at hcx hx;have HX:=ae hxx;have hkn:(i:Int)<(l0:Int):=by omega
   clear hxx;go_wp2;go_loopg [8,26] l1 (fun kx s8 s26 wq=>∃ (k c:Nat) (L':List Nat),s8=.int .u64 c/\s26=.int .i64 k/\k<=l1/\l1 - k<=kx/\c<4294967296/\Hid (ai wq w.heap.size 70 (L'.map fp))/\Hid (L'.length=p/\Wd L')/\Hid (nv L'+c*4294967296^(i+k)=nv L+x*(nv (ys.take k)*4294967296^i)/\∀ q,i+l1<=q->L'.getD q 0=0)/\Hid (af w wq))
   case atStart=>exact ⟨0,0,L,rfl,rfl,Nat.zero_le _,by omega,by omega,HR,HL,ae ⟨by simp [cz],HI.out.2⟩,HK⟩
   case round =>
    obtain ⟨k,c,L',rfl,rfl,hk,hkx2,hc,HR2,HL2,HI2,HK2⟩:=hrel;by_cases hlt2:k<l1
    ·obtain ⟨b2,o2,rfl,hcy⟩:=(HB.out.kept HK2.out).get k (by have:=H1.out;omega);have hy:=HB.out.wd.getD k;have hpp:=HP.out;have hik:i+k<L'.length:=by have:=HL2.out.1;omega
     have hikp:i+k<p:=by omega
     have f:=HR2.out.free (i+k);have hst:=bl HR2.out (i+k) hik;have hwz:=HL2.out.2.getD (i+k);have HST:Hid (∀ s,s=c+x*ys.getD k 0+L'.getD (i+k) 0->nv (L'.set (i+k) (s % 4294967296))+(s / 4294967296)*4294967296^(i+(k+1))=nv L+x*(nv (ys.take (k+1))*4294967296^i)):=ae fun s hs=>nh HI2.out.1 hik hs
     generalize ys.getD k 0=y at *;generalize L'.getD (i+k) 0=z at *;obtain ⟨hs1,hs2,hs3⟩:=kh hc hx hy hwz;obtain ⟨s,hs⟩:∃ s,s=c+x*y+z:=⟨_,rfl⟩;have HSS:=ae (HST.out s hs);rw [<-hs] at hs1 hs3;obtain ⟨xy,hxy⟩:∃ xy,xy=x*y:=⟨_,rfl⟩;rw [<-hxy] at hs hs2;have exy:(x:Int)*(y:Int)=(xy:Int):=by rw [hxy];simp
     obtain ⟨r,hr⟩:∃ r,r=s % 4294967296:=⟨_,rfl⟩;obtain ⟨q,hq⟩:∃ q,q=s / 4294967296:=⟨_,rfl⟩;rw [<-hr,<-hq] at HSS;rw [<-hq] at hs3;have hr9:r<4294967296:=by omega
     have es:(c:Int)+((xy:Int)+(z:Int))=(s:Int):=by omega
     have e6:(s:Int) / 4294967296=(q:Int):=by omega
     have eik:(i:Int)+(k:Int)=((i+k:Nat):Int):=by omega
     have hkn2:(k:Int)<(l1:Int):=by omega
     have e5:IntKind.u32.wrap (s:Int)=(r:Int):=by rw [IntKind.wrap_u32];omega
     clear hs hr hq HST hxy hpp eik;go_wp2;go_roundg (l1 - (k+1))
     case measure=>omega
     case rel=>exact ⟨k+1,q,L'.set (i+k) r,rfl,by go_num,by omega,Nat.le_refl _,hs3,ae (bi HR2.out (i+k) r),ae ⟨by rw [List.length_set];exact HL2.out.1,HL2.out.2.set _ r hr9⟩,ae ⟨HSS.out,qE HI2.out.2 (by omega)⟩,ae (HK2.out.store (Nat.le_refl _) _ _)⟩
    ·have hke:k=l1:=by omega
     have hpp:=HP.out;have hil:i+l1<L'.length:=by have:=HL2.out.1;omega
     have hilp:i+l1<p:=by omega
     have HNX:Hid (nv (L'.set (i+l1) c)=nv (xs.take (i+1))*nv ys):=ae (by
      have h:=HI2.out.1;rw [hke,HX.out,H1.out] at h;rw [H1.out];exact yN h HI.out.1 (by rw [<-H1.out];exact hil) (by rw [<-H1.out];exact HI2.out.2 _ (Nat.le_refl _)))
     have f:=HR2.out.free (i+l1);have hst:=bl HR2.out (i+l1) hil;have e5:IntKind.u32.wrap (c:Int)=(c:Int):=by rw [IntKind.wrap_u32];omega
     clear hke hpp;go_wp2;go_roundg (l0 - (i+1))
     case measure=>omega
     case rel=>exact ⟨i+1,L'.set (i+l1) c,by go_num,by omega,Nat.le_refl _,ae (bi HR2.out (i+l1) c),ae ⟨by rw [List.length_set];exact HL2.out.1,HL2.out.2.set _ c hc⟩,ae ⟨HNX.out,qE (fun q hq=>HI2.out.2 q (by omega)) (by omega)⟩,ae (HK2.out.store (Nat.le_refl _) _ _)⟩
  ·have hie:i=l0:=by omega
   have HV:Hid (nv L=nv xs*nv ys):=ae (by have:=HI.out.1;rw [hie,H0.out,aC _ _ (Nat.le_refl _)] at this;exact this)
   have HT:Hid (Calls Tryz.prog 116 #[.slice (some ⟨w.heap.size,0,none⟩) p p] wo fun e w'=>(∃ v',e=.returned v'/\ah w' v' (nw (nv L)))/\af wo w'):=ae (by
    have h:=eN HR.out (c:=p) (by rw [HL.out.1];exact Nat.le_refl _) (by rw [HL.out.1];omega) HL.out.2;rw [HL.out.1] at h;exact bh _ _ _ h)
   clear hie;go_wp2_with (go_at_call 116;refine HT.out.mono ?_;rintro e w2 ⟨⟨v2,rfl,hv2⟩,hk2⟩;have HV2:=ae hv2;clear hv2);obtain ⟨a2,c2,rfl⟩:=HV2.out.shape;go_ret;exact ⟨⟨_,rfl,by rw [<-HV.out];exact HV2.out⟩,HK.out.trans hk2⟩
theorem em (a:Nat) (h:a<4294967296):(BitVec.ofInt 32 (a:Int)).toNat=a:=by
 rw [BitVec.ofInt_natCast,BitVec.toNat_ofNat];exact Nat.mod_eq_of_lt (by omega)
theorem z' (a b:Nat) (ha:a<4294967296) (hb:b<4294967296):bits .or .u32 (a:Int) (b:Int)=((a ||| b:Nat):Int):=by
 have h:(BitVec.ofInt 32 (a:Int) ||| BitVec.ofInt 32 (b:Int)).toNat=a ||| b:=by rw [BitVec.toNat_or,em a ha,em b hb]
 show IntKind.u32.wrap (((BitVec.ofInt 32 (a:Int) ||| BitVec.ofInt 32 (b:Int)).toNat:Nat):Int)=_;rw [h,IntKind.wrap_u32];have:=Nat.or_lt_two_pow (n:=32) (x:=a) (y:=b) (by omega) (by omega);omega
theorem gO (r x:Nat) (hr:r<4294967296) (hx:x<4294967296):bits .or .u64 ((r:Int)*4294967296) (x:Int)=((r*4294967296+x:Nat):Int):=by
 have h:=lN (r*4294967296) x (by omega) (by omega)
 have e:(r*4294967296 ||| x)=r*4294967296+x:=by
  rw [Nat.mul_comm,show (4294967296:Nat)=2^32 by rfl,<-Nat.two_pow_add_eq_or_of_lt (by omega)]
 rw [e] at h;rw [<-h];simp
theorem nE (va:Value) (xs:List Nat) (d:Nat) (w:World) (ha:ah w va xs) (hd0:0<d) (hd:d<4294967296) :
  Calls Tryz.prog 147 #[va,.int .u32 d] w fun e w'=>(∃ v',e=.returned (.tuple #[v',.int .u32 (nv xs % d:Nat)])/\ah w' v' (nw (nv xs / d)))/\af w w':=by
 have HA:=ae ha;obtain ⟨a0,c0,rfl⟩:=ha.shape;obtain ⟨n,hn⟩:∃ n,n=xs.length:=⟨_,rfl⟩;have hn9:n<=1099511627776:=by rw [hn];exact ha.len
 rw [<-hn] at HA⊢;have HN:=ae hn;clear ha hn;go_enter Tryz.func147,Tryz.ntmps147;go_wp2_with (refine cX 27 70 (.int .u32 0) 4 cI Tryz.underlying27 rfl rfl _ _ rfl n rfl rfl (by omega) (by unfold maxLen;omega) ?_;intro w1 hr1 hk1);have HR1:=ae (cW hr1);have HK1:=ae hk1;clear hr1 hk1;go_loopg [7,8] n (fun kx s7 s8 wr=>∃ (k r:Nat) (L:List Nat),s7=.int .u64 r/\s8=.int .i64 ((k:Int) - 1)/\k<=n/\k<=kx/\r<d/\Hid (ai wr w.heap.size 70 (L.map fp))/\Hid (L.length=n/\Wd L)/\Hid (nv (xs.drop k)=d*nv (L.drop k)+r)/\Hid (af w wr))
 case atStart=>exact ⟨n,0,List.replicate n 0,rfl,rfl,Nat.le_refl _,Nat.le_refl _,hd0,HR1,ae ⟨by simp,Wd.zeros _⟩,ae (by rw [da (by rw [<-HN.out];exact Nat.le_refl _),da (by simp)];simp),HK1⟩
 case round =>
  obtain ⟨k,r,L,rfl,rfl,hk,hkx,hr,HR,HL,HI,HK⟩:=hrel;by_cases hk0:k=0
  ·subst hk0;have hI:=HI.out;simp only [List.drop_zero] at hI;obtain ⟨h1,h2⟩:=vQ hI hr;have H1:=ae h1;have H2:=ae h2
   have HT:Hid (Calls Tryz.prog 116 #[.slice (some ⟨w.heap.size,0,none⟩) n n] wr fun e w'=>(∃ v',e=.returned v'/\ah w' v' (nw (nv L)))/\af wr w'):=ae (by
    have h:=eN HR.out (c:=n) (by rw [HL.out.1];exact Nat.le_refl _) (by rw [HL.out.1];omega) HL.out.2;rw [HL.out.1] at h;exact bh _ _ _ h)
   have e5:IntKind.u32.wrap (r:Int)=(r:Int):=by rw [IntKind.wrap_u32];omega
   clear hI h1 h2;go_wp2_with (go_at_call 116;refine HT.out.mono ?_;rintro e w2 ⟨⟨v2,rfl,hv2⟩,hk2⟩;have HV2:=ae hv2;clear hv2);obtain ⟨a2,c2,rfl⟩:=HV2.out.shape;go_ret2;exact ⟨⟨_,by rw [H2.out];first | done | rfl,by rw [H1.out];exact HV2.out⟩,HK.out.trans hk2⟩
  ·obtain ⟨j,rfl⟩:∃ j,k=j+1:=⟨k - 1,by omega⟩;obtain ⟨b,o,rfl,hcx⟩:=(HA.out.kept HK.out).get j (by have:=HN.out;omega);have hx:=HA.out.wd.getD j;have hjL:j<L.length:=by have:=HL.out.1;omega
   have f:=HR.out.free j;have hst:=bl HR.out j hjL
   have HSS:Hid (∀ cur,cur=r*4294967296+xs.getD j 0->(nv (xs.drop j)=d*nv ((L.set j (cur / d)).drop j)+cur % d)/\cur % d<d/\cur / d<4294967296/\cur<18446744073709551616):=ae fun cur hc=>by
    obtain ⟨h1,h2,h3,h4⟩:=sy HI.out hr hd hx hc;refine ⟨?_,h2,h3,h4⟩;rw [aS (l:=xs) (i:=j) (by have:=HN.out;omega),aS (l:=L.set j (cur / d)) (i:=j) (by rw [List.length_set];exact hjL),ek hjL,List.drop_set_of_lt (by omega)];exact h1
   generalize xs.getD j 0=x at *;generalize L.getD j 0=z at *;have eor:=gO r x (by omega) hx;obtain ⟨cur,hcur⟩:∃ cur,cur=r*4294967296+x:=⟨_,rfl⟩;obtain ⟨h1,h2,h3,h4⟩:=HSS.out cur hcur;rw [<-hcur] at eor;obtain ⟨qq,hqq⟩:∃ qq,qq=cur / d:=⟨_,rfl⟩;obtain ⟨rr,hrr⟩:∃ rr,rr=cur % d:=⟨_,rfl⟩;rw [<-hqq,<-hrr] at h1;rw [<-hqq] at h3;rw [<-hrr] at h2;have eq1:(cur:Int) / (d:Int)=(qq:Int):=by rw [hqq];simp
   have eq2:(cur:Int) % (d:Int)=(rr:Int):=by rw [hrr];simp
   have HS1:=ae h1;have ej:((j+1:Nat):Int) - 1=(j:Int):=by omega
   have hjn:(j:Int)<(n:Int):=by omega
   have hj0:(0:Int)<=(j:Int):=by omega
   clear h1 HSS hcur hqq hrr;rw [ej];go_wp2;go_roundg j
   case measure=>omega
   case rel=>exact ⟨j,rr,L.set j qq,by rw [eq2],rfl,by omega,Nat.le_refl _,h2,ae (bi HR.out j qq),ae ⟨by rw [List.length_set];exact HL.out.1,HL.out.2.set j qq h3⟩,HS1,ae (HK.out.store (Nat.le_refl _) j _)⟩
theorem xP (x n:Nat) (hx:x<4294967296) (hn:n<32):x*2^n<18446744073709551616:=(yd (y:=x*2^n) hn hx rfl).1
theorem rI {L xs:List Nat} {i n y x w:Nat} (hn:n<32) (hI:nv L=nv (xs.take i)*2^n) (hw:w=L.getD i 0) (hw2:w<2^n) (hz:L.getD (i+1) 0=0) (hx:x=xs.getD i 0) (hy:y=x*2^n) (hi:i+1<L.length) :
  nv ((L.set i (w ||| (y % 4294967296))).set (i+1) (y / 4294967296))=nv (xs.take (i+1))*2^n/\(w ||| (y % 4294967296))<4294967296:=by
 have h1:=oj L i (w ||| (y % 4294967296)) (by omega);have h2:=oj (L.set i (w ||| (y % 4294967296))) (i+1) (y / 4294967296) (by rw [List.length_set];exact hi);rw [cV (by omega),hz,Nat.zero_mul,Nat.add_zero] at h2;rw [<-hw] at h1
 have h3:nv ((L.set i (w ||| (y % 4294967296))).set (i+1) (y / 4294967296))+w*4294967296^i=nv L+(w ||| (y % 4294967296))*4294967296^i+(y / 4294967296)*(4294967296*4294967296^i):=by
  rw [h2,Nat.pow_succ,Nat.mul_comm (4294967296^i) 4294967296];omega
 obtain ⟨h4,h5⟩:=zh hn hI hy hw2 _ h3;refine ⟨by rw [h5,ap,hx],?_⟩;have h6:w<2^32:=Nat.lt_of_lt_of_le hw2 (Nat.pow_le_pow_right (by omega) (by omega));exact Nat.or_lt_two_pow (n:=32) h6 (by omega)
theorem wB (va:Value) (xs:List Nat) (n:Nat) (w:World) (ha:ah w va xs) (hn:n<32) (hla:xs.length<=549755813888) :
  Calls Tryz.prog 235 #[va,.int .i64 n] w fun e w'=>(∃ L,e=.returned (.slice (some ⟨w.heap.size,0,none⟩) (xs.length+1) (xs.length+1))/\ai w' w.heap.size 70 (L.map fp)/\L.length=xs.length+1/\Wd L/\nv L=nv xs*2^n)/\af w w':=by
 have HA:=ae ha;obtain ⟨a0,c0,rfl⟩:=ha.shape;obtain ⟨l0,h0⟩:∃ l0,l0=xs.length:=⟨_,rfl⟩;rw [<-h0] at HA hla⊢;have H0:=ae h0;obtain ⟨p,hp⟩:∃ p,p=l0+1:=⟨_,rfl⟩;have e1:(l0:Int)+1=(p:Int):=by omega
 have hp9:p<=549755813889:=by omega
 rw [<-hp];clear ha h0;have HP:=ae hp;clear hp;go_enter Tryz.func235,Tryz.ntmps235;go_wp2_with (refine cX 27 70 (.int .u32 0) 4 cI Tryz.underlying27 rfl rfl _ _ rfl p rfl rfl (by omega) (by unfold maxLen;omega) ?_;intro w1 hr1 hk1);have HR1:=ae (cW hr1);have HK1:=ae hk1;clear hr1 hk1;go_loopg [15] l0 (fun kx s15 wr=>∃ (i:Nat) (L:List Nat),s15=.int .i64 i/\i<=l0/\l0 - i<=kx/\Hid (ai wr w.heap.size 70 (L.map fp))/\Hid (L.length=p/\Wd L)/\Hid (nv L=nv (xs.take i)*2^n/\L.getD i 0<2^n/\∀ q,i<q->L.getD q 0=0)/\Hid (af w wr))
 case atStart=>exact ⟨0,List.replicate p 0,rfl,Nat.zero_le _,by omega,HR1,ae ⟨by simp,Wd.zeros _⟩,ae ⟨by rw [jo];simp [cz],by simp [List.getD_eq_getElem?_getD,List.getElem?_replicate];split <;> exact Nat.two_pow_pos n,fun q _=>by simp [List.getD_eq_getElem?_getD,List.getElem?_replicate];split <;> rfl⟩,HK1⟩
 case round =>
  obtain ⟨i,L,rfl,hi,hkx,HR,HL,HI,HK⟩:=hrel;by_cases hlt:i<l0
  ·obtain ⟨b,o,rfl,hcx⟩:=(HA.out.kept HK.out).get i (by have:=H0.out;omega);have hx:=HA.out.wd.getD i;have hpp:=HP.out;have hiL:i<L.length:=by have:=HL.out.1;omega
   have hiL1:i+1<L.length:=by have:=HL.out.1;omega
   have hip:i<p:=by omega
   have hip1:i+1<p:=by omega
   have f:=HR.out.free i;have f1:=HR.out.free (i+1);have hst:=bl HR.out i hiL;have hst1:=bl HR.out (i+1) hiL1;have hz:=HI.out.2.2 (i+1) (by omega);rw [hz] at hst1;obtain ⟨x,hxx⟩:∃ x,x=xs.getD i 0:=⟨_,rfl⟩;obtain ⟨y,hyy⟩:∃ y,y=x*2^n:=⟨_,rfl⟩;obtain ⟨z,hzz⟩:∃ z,z=L.getD i 0:=⟨_,rfl⟩;rw [<-hxx] at hcx hx;rw [<-hzz] at hst;have hz9:z<4294967296:=by rw [hzz];exact HL.out.2.getD i
   obtain ⟨hrd,hor⟩:=rI hn HI.out.1 hzz (by rw [hzz];exact HI.out.2.1) hz hxx hyy hiL1;obtain ⟨htop,htop2⟩:=yd hn hx hyy;have ey:(x:Int)*2^n=(y:Int):=by rw [hyy];simp
   obtain ⟨q,hq⟩:∃ q,q=y / 4294967296:=⟨_,rfl⟩;obtain ⟨r,hr⟩:∃ r,r=y % 4294967296:=⟨_,rfl⟩;obtain ⟨t,ht⟩:∃ t,t=(z ||| r):=⟨_,rfl⟩;rw [<-hq,<-hr,<-ht] at hrd;rw [<-hr,<-ht] at hor;rw [<-hq] at htop2;have hq9:q<4294967296:=by omega
   have hr9:r<4294967296:=by omega
   have e6:(y:Int) / 4294967296=(q:Int):=by omega
   have e5:IntKind.u32.wrap (y:Int)=(r:Int):=by rw [IntKind.wrap_u32];omega
   have e7:bits .or .u32 (z:Int) (r:Int)=(t:Int):=by rw [ht];exact z' z r hz9 hr9
   have HRD:=ae hrd;have HT2:=ae htop2;have hkn:(i:Int)<(l0:Int):=by omega
   clear hrd hyy hxx hzz hq hr ht hz hpp htop2;go_wp2;go_roundg (l0 - (i+1))
   case measure=>omega
   case rel =>
    refine ⟨i+1,(L.set i t).set (i+1) q,by go_num,by omega,Nat.le_refl _,ae (bi (bi HR.out i t) (i+1) q),ae ⟨by rw [List.length_set,List.length_set];exact HL.out.1,(HL.out.2.set i t hor).set _ q hq9⟩,ae ⟨HRD.out,?_,fun j hj=>?_⟩,ae ((HK.out.store (Nat.le_refl _) _ _).store (Nat.le_refl _) _ _)⟩
    ·rw [ek (by rw [List.length_set];exact hiL1)];exact HT2.out
    ·rw [cV (by omega),cV (by omega)];exact HI.out.2.2 j (by omega)
  ·have hie:i=l0:=by omega
   have HV:Hid (nv L=nv xs*2^n):=ae (by have:=HI.out.1;rw [hie,H0.out,aC _ _ (Nat.le_refl _)] at this;exact this);clear hie;go_wp2;go_ret;exact ⟨⟨L,rfl,HR.out,HL.out.1,HL.out.2,HV.out⟩,HK.out⟩
theorem lW {xs:List Nat} {n i:Nat} (hn:n<32) (hi:i<xs.length) (hw:Wd xs):∃ t u:Nat,bits .or .u64 ((xs.getD i 0:Nat):Int) (((xs.getD (i+1) 0:Nat):Int)*4294967296)=(t:Int)/\(t:Int) / 2^n=(u:Int)/\t<18446744073709551616/\u<=t/\u % 4294967296=(nv xs / 2^n / 4294967296^i) % 4294967296:=by
 have h0:=hw.getD i;have h1:=hw.getD (i+1);refine ⟨xs.getD i 0 ||| xs.getD (i+1) 0*4294967296,(xs.getD i 0 ||| xs.getD (i+1) 0*4294967296) / 2^n,?_,by simp,?_,Nat.div_le_self _ _,tP n i hn hi hw⟩
 ·have h:=lN (xs.getD i 0) (xs.getD (i+1) 0*4294967296) (by omega) (by omega);rw [<-h];simp
 ·exact Nat.or_lt_two_pow (n:=64) (by omega) (by omega)
theorem uP (va:Value) (xs:List Nat) (n:Nat) (w:World) (ha:ah w va xs) (hn:n<32) :
  Calls Tryz.prog 238 #[va,.int .i64 n] w fun e w'=>(∃ v' L,e=.returned v'/\ah w' v' L/\nv L=nv xs / 2^n)/\af w w':=by
 have HW:=ae (fun W (hk:af w W) (i:Nat)=>dX va xs i W (ha.kept hk));have HA:=ae ha;obtain ⟨a0,c0,rfl⟩:=ha.shape;obtain ⟨l0,h0⟩:∃ l0,l0=xs.length:=⟨_,rfl⟩;have hl9:l0<=1099511627776:=by rw [h0];exact ha.len
 rw [<-h0] at HW⊢;have H0:=ae h0;clear ha h0;go_enter Tryz.func238,Tryz.ntmps238;go_wp2_with (refine cX 27 70 (.int .u32 0) 4 cI Tryz.underlying27 rfl rfl _ _ rfl l0 rfl rfl (by omega) (by unfold maxLen;omega) ?_;intro w1 hr1 hk1);have HR1:=ae (cW hr1);have HK1:=ae hk1;clear hr1 hk1;go_loopg [12] l0 (fun kx s12 wr=>∃ (i:Nat) (L:List Nat),s12=.int .i64 i/\i<=l0/\l0 - i<=kx/\Hid (ai wr w.heap.size 70 (L.map fp))/\Hid (L.length=l0/\Wd L)/\Hid (nv (L.take i)=nv xs / 2^n % 4294967296^i)/\Hid (af w wr))
 case atStart=>exact ⟨0,List.replicate l0 0,rfl,Nat.zero_le _,by omega,HR1,ae ⟨by simp,Wd.zeros _⟩,ae (by simp [cz,Nat.mod_one]),HK1⟩
 case round =>
  obtain ⟨i,L,rfl,hi,hkx,HR,HL,HI,HK⟩:=hrel;by_cases hlt:i<l0
  ·have hiL:i<L.length:=by have:=HL.out.1;omega
   have f:=HR.out.free i;have hst:=bl HR.out i hiL;obtain ⟨t,u,h1,h2,h3,h4,h5⟩:=lW hn (by have:=H0.out;omega:i<xs.length) HA.out.wd;have hx:=HA.out.wd.getD i;have hx1:=HA.out.wd.getD (i+1);have HX:=ae (HW.out wr HK.out i);have HX1:=ae (HW.out wr HK.out (i+1));generalize xs.getD i 0=x at *;generalize xs.getD (i+1) 0=x1 at *;obtain ⟨r,hr⟩:∃ r,r=u % 4294967296:=⟨_,rfl⟩;have hr9:r<4294967296:=by omega
   have e5:IntKind.u32.wrap (u:Int)=(r:Int):=by rw [IntKind.wrap_u32];omega
   have HS:Hid (nv ((L.set i r).take (i+1))=nv xs / 2^n % 4294967296^(i+1)):=ae (by rw [dz hiL,HI.out,hr,h5,jk]);have hkn:(i:Int)<(l0:Int):=by omega
   clear h5 hr;go_wp2_with (first | (go_at_call 239;(with_reducible refine HX.out.mono ?_);rintro e w2 ⟨rfl,rfl⟩) | (go_at_call 239;refine HX1.out.mono ?_;rintro e w2 ⟨rfl,rfl⟩));go_roundg (l0 - (i+1))
   case measure=>omega
   case rel=>exact ⟨i+1,L.set i r,by go_num,by omega,Nat.le_refl _,ae (bi HR.out i r),ae ⟨by rw [List.length_set];exact HL.out.1,HL.out.2.set i r hr9⟩,HS,ae (HK.out.store (Nat.le_refl _) _ _)⟩
  ·have hie:i=l0:=by omega
   have HV:Hid (nv L=nv xs / 2^n):=ae (by
    have h:=HI.out;rw [hie,aC _ _ (by rw [HL.out.1];exact Nat.le_refl _)] at h;rw [h];refine Nat.mod_eq_of_lt (Nat.lt_of_le_of_lt (Nat.div_le_self _ _) ?_);rw [H0.out];exact dl HA.out.wd)
   have HF:Hid (ah wr (.slice (some ⟨w.heap.size,0,none⟩) l0 l0) L):=ae (by
    have h:=eN HR.out (c:=l0) (by rw [HL.out.1];exact Nat.le_refl _) (by rw [HL.out.1];omega) HL.out.2;rw [HL.out.1] at h;exact h)
   clear hie;go_wp2;go_ret;exact ⟨⟨_,L,rfl,HF.out,HV.out⟩,HK.out⟩
structure aH (g:Nat) (w w':World):Prop where
 os:w'.os=w.os
 tape:w'.tape=w.tape
 output:w'.output=w.output
 size:w.heap.size<=w'.heap.size
 block:∀ k,k<w.heap.size->k≠g->w'.heap[k]?=w.heap[k]?
theorem aH.refl (g:Nat) (w:World):aH g w w:=⟨rfl,rfl,rfl,Nat.le_refl _,fun _ _ _=>rfl⟩
theorem aH.trans {g:Nat} {a b c:World} (h:aH g a b) (k:aH g b c):aH g a c :=
 ⟨k.os.trans h.os,k.tape.trans h.tape,k.output.trans h.output,Nat.le_trans h.size k.size,fun i hi hne=>(k.block i (Nat.lt_of_lt_of_le hi h.size) hne).trans (h.block i hi hne)⟩
theorem aH.kept {g:Nat} {a b:World} (h:af a b):aH g a b:=⟨h.os,h.tape,h.output,h.size,fun i hi _=>h.block i hi⟩
theorem aH.store {g:Nat} {a b:World} (h:aH g a b) (i:Nat) (u:Value):aH g a (b.setCell ⟨g,i,none⟩ u):=by
 have h3:Below 0 b (b.setCell ⟨g,i,none⟩ u):=Below.setCell (Below.refl _ _) (Nat.zero_le _) _;exact ⟨h3.os.trans h.os,h3.tape.trans h.tape,h3.output.trans h.output,Nat.le_trans h.size h3.size,fun k hk hne=>(Below.heap_setCell b ⟨g,i,none⟩ u k hne).trans (h.block k hk hne)⟩
theorem aH.row {g p:Nat} {w w':World} {e:TypeId} {xs:List Value} (h:aH g w w') (hr:ai w p e xs) (hne:p≠g):ai w' p e xs:=hr.same (h.block p hr.lt hne)
theorem aH.toKept {g:Nat} {w0 w w':World} (h:aH g w w') (hk:af w0 w) (hg:w0.heap.size<=g):af w0 w' :=
 ⟨h.os.trans hk.os,h.tape.trans hk.tape,h.output.trans hk.output,Nat.le_trans hk.size h.size,fun k hk'=>(h.block k (Nat.lt_of_lt_of_le hk' hk.size) (by omega)).trans (hk.block k hk')⟩
theorem drop_set (l:List Nat) (o i x:Nat):(l.set (o+i) x).drop o=(l.drop o).set i x:=by
 rw [List.drop_set,if_neg (by omega),Nat.add_sub_cancel_left]
theorem ts {l:List Nat} {o i x:Nat} (h:o+i<l.length):nv (((l.set (o+i) x).drop o).take (i+1))=nv ((l.drop o).take i)+x*4294967296^i:=by
 rw [drop_set,dz (by rw [List.length_drop];omega)]
theorem qD (l:List Nat) (o i:Nat):nv ((l.drop o).take (i+1))=nv ((l.drop o).take i)+l.getD (o+i) 0*4294967296^i:=by
 rw [ap,dw]
theorem xU (g gv o m k c cv n:Nat) (U V:List Nat) (w:World) (hU:ai w g 70 (U.map fp)) (hV:ai w gv 70 (V.map fp)) (hne:gv≠g) (hUw:Wd U) (hVw:Wd V) (hk:k=m+1) (hoU:o+k<=U.length) (hmV:m<=V.length) (hm9:m<=549755813888) (hcv:m<=cv) (hn:n<4294967296) (_hc:k<=c) :
  Calls Tryz.prog 236 #[.slice (some ⟨g,o,none⟩) k c,.slice (some ⟨gv,0,none⟩) m cv,.int .u64 n] w fun e w'=>(∃ (b:Nat) (U':List Nat),e=.returned (.bool ((b:Int) == 1))/\b<=1/\ai w' g 70 (U'.map fp)/\Wd U'/\U'.length=U.length/\(∀ j,j<o\/o+k<=j->U'.getD j 0=U.getD j 0) /\
   nv ((U'.drop o).take k)+n*nv (V.take m)=nv ((U.drop o).take k)+b*4294967296^k)/\aH g w w':=by
 have HU:=ae hU;have HLN:=ae hoU;have HWU:=ae hUw;have HK:=ae hk;have hk9:k<=549755813889:=by omega
 have hlV:(V.take m).length=m:=by rw [List.length_take];omega
 have HLV:=ae hlV;have HVW:Hid (Wd (V.take m)):=ae (hVw.take m)
 have HWD:Hid (∀ W,aH g w W->∀ i:Nat,Calls Tryz.prog 239 #[.slice (some ⟨gv,0,none⟩) m cv,.int .i64 i] W fun e w'=>e=.returned (.int .u64 (((V.take m).getD i 0:Nat):Int))/\W=w'):=ae fun W hW i=>by
  have h:=hW.row hV hne
  have h2:ah W (.slice (some ⟨gv,0,none⟩) m cv) (V.take m):=by
   refine ⟨_,cv,by rw [hlV],⟨by omega,fun h=>by cases h⟩,by omega,hVw.take m,fun j hj=>⟨gv,0,rfl,?_⟩⟩;rw [hlV] at hj;have:=bl h j (by omega);rw [cw hj,Nat.zero_add];exact this
  exact dX _ _ i W h2
 clear hU hoU hUw hk hlV hV hVw;go_enter Tryz.func236,Tryz.ntmps236;go_wp2;go_loopg [7,8,13] k (fun kx s7 s8 s13 wr=>∃ (i cy b:Nat) (U':List Nat),s7=.int .u64 cy/\s8=.int .u64 b/\s13=.int .i64 i/\i<=k/\k - i<=kx/\cy<4294967296/\b<=1/\Hid (ai wr g 70 (U'.map fp))/\Hid (Wd U'/\U'.length=U.length/\(∀ j,j<o\/o+i<=j->U'.getD j 0=U.getD j 0)/\(m<i->cy=0))/\Hid (nv ((U'.drop o).take i)+n*nv ((V.take m).take i)=nv ((U.drop o).take i)+b*4294967296^i+cy*4294967296^i)/\Hid (aH g w wr))
 case atStart=>exact ⟨0,0,0,U,rfl,rfl,rfl,Nat.zero_le _,by omega,by omega,by omega,HU,ae ⟨HWU.out,rfl,fun _ _=>rfl,fun h=>rfl⟩,ae (by simp [cz]),ae (aH.refl _ _)⟩
 case round =>
  obtain ⟨i,cy,b,U',rfl,rfl,rfl,hi,hkx,hcy,hb,HR,HL,HI,HO⟩:=hrel;by_cases hlt:i<k
  ·have hiU:o+i<U'.length:=by have h1:=HL.out.2.1;have h2:=HLN.out;omega
   have f:=HR.out.free (o+i);have hst:=bl HR.out (o+i) hiU;have hxw:=HL.out.1.getD (o+i);have hux:U'.getD (o+i) 0=U.getD (o+i) 0:=HL.out.2.2.1 _ (.inr (Nat.le_refl _));have hyw:=HVW.out.getD i;have hy0:m<=i->(V.take m).getD i 0=0:=fun h=>by rw [List.getD_eq_getElem?_getD,List.getElem?_eq_none (by rw [HLV.out];exact h)];rfl
   have HX:=ae (HWD.out wr HO.out i)
   have HST:Hid (∀ s oo b',s=cy+n*(V.take m).getD i 0->oo+s % 4294967296+b=U'.getD (o+i) 0+b'*4294967296->nv (((U'.set (o+i) oo).drop o).take (i+1))+n*nv ((V.take m).take (i+1))=nv ((U.drop o).take (i+1))+b'*4294967296^(i+1)+(s / 4294967296)*4294967296^(i+1)):=ae fun s oo b' hs ho=>by
    have h:=vh HI.out hs (hux ▸ ho);rw [ts hiU,ap,qD U,h,Nat.pow_succ,Nat.mul_comm (4294967296^i)]
   obtain ⟨y,hyy⟩:∃ y,y=(V.take m).getD i 0:=⟨_,rfl⟩;rw [<-hyy] at hyw hy0 HX HST;generalize U'.getD (o+i) 0=x at *;obtain ⟨hs1,hs2,hs3⟩:=kh hcy hn hyw (show 0<4294967296 by omega);simp only [Nat.add_zero] at hs1 hs3;obtain ⟨ny,hny⟩:∃ ny,ny=n*y:=⟨_,rfl⟩;rw [<-hny] at hs1 hs2 hs3 HST;have eny:(n:Int)*(y:Int)=(ny:Int):=by rw [hny];simp
   have hn0:y=0->ny=0:=fun h=>by rw [hny,h,Nat.mul_zero]
   obtain ⟨s,hs⟩:∃ s,s=cy+ny:=⟨_,rfl⟩;rw [<-hs] at hs1 hs3;obtain ⟨sl,hsl⟩:∃ sl,sl=s % 4294967296:=⟨_,rfl⟩;obtain ⟨sh,hsh⟩:∃ sh,sh=s / 4294967296:=⟨_,rfl⟩;rw [<-hsh] at hs3;have hsl9:sl<4294967296:=by omega
   obtain ⟨oo,b',D,ho,hb',hD,hob,hm,hd,hcs⟩:=fP hxw hsl9 hb;have HSS:=ae (HST.out s oo b' hs (by rw [<-hsl];exact hob));rw [<-hsh] at HSS
   have hlast:m<i+1->sh=0:=fun h=>by
    have h1:=hy0 (by omega);have h2:=hn0 h1;omega
   have HLA:=ae hlast;have es:(cy:Int)+(ny:Int)=(s:Int):=by omega
   have esl:IntKind.u32.wrap (s:Int)=(sl:Int):=by rw [IntKind.wrap_u32];omega
   have esh:(s:Int) / 4294967296=(sh:Int):=by omega
   have e5:IntKind.u32.wrap (D:Int)=(oo:Int):=by rw [IntKind.wrap_u32];omega
   have e6:(D:Int) / 9223372036854775808=(b':Int):=by omega
   have hkn:(i:Int)<(k:Int):=by omega
   have hNEW:Hid (Wd (U'.set (o+i) oo)/\(U'.set (o+i) oo).length=U.length/\(∀ j,j<o\/o+(i+1)<=j->(U'.set (o+i) oo).getD j 0=U.getD j 0)/\(m<i+1->sh=0)):=ae ⟨HL.out.1.set _ _ ho,by rw [List.length_set];exact HL.out.2.1,fun j hj=>by rw [cV (by omega)];exact HL.out.2.2.1 j (by omega),hlast⟩;clear HST hob hm hd hux hyy hny hn0 hy0 hs hsl hsh hlast;rcases hcs with ⟨h1,h2⟩ | ⟨h1,D1,h2,h3⟩ | ⟨h1,h2,h3⟩
   ·go_wp2_with (go_at_call 239;(with_reducible refine HX.out.mono ?_);rintro e w2 ⟨rfl,rfl⟩);go_roundg (k - (i+1))
    case measure=>omega
    case rel=>exact ⟨i+1,sh,b',U'.set (o+i) oo,rfl,rfl,by go_num,by omega,Nat.le_refl _,hs3,hb',ae (bi HR.out _ _),hNEW,HSS,ae (HO.out.store _ _)⟩
   ·have e1:=km h2 (by omega);have hD1:D1<18446744073709551616:=by omega
    clear h2;go_wp2_with (go_at_call 239;(with_reducible refine HX.out.mono ?_);rintro e w2 ⟨rfl,rfl⟩);go_roundg (k - (i+1))
    case measure=>omega
    case rel=>exact ⟨i+1,sh,b',U'.set (o+i) oo,rfl,rfl,by go_num,by omega,Nat.le_refl _,hs3,hb',ae (bi HR.out _ _),hNEW,HSS,ae (HO.out.store _ _)⟩
   ·have e1:=km h3 (by omega);have g1:x<=sl:=by omega
    have g2:sl<=x:=by omega
    have g3:1<=b:=by omega
    clear h1 h2 h3;go_wp2_with (go_at_call 239;(with_reducible refine HX.out.mono ?_);rintro e w2 ⟨rfl,rfl⟩);go_roundg (k - (i+1))
    case measure=>omega
    case rel=>exact ⟨i+1,sh,b',U'.set (o+i) oo,rfl,rfl,by go_num,by omega,Nat.le_refl _,hs3,hb',ae (bi HR.out _ _),hNEW,HSS,ae (HO.out.store _ _)⟩
  ·have hie:i=k:=by omega
   have hcy0:cy=0:=HL.out.2.2.2 (by have:=HK.out;omega);have hf:=HI.out;rw [hie,hcy0,Nat.zero_mul,Nat.add_zero,aC (V.take m) k (by rw [HLV.out,HK.out];omega)] at hf;have HF:=ae hf;have HE:=ae hie;clear hie hcy0 hf;go_wp2;go_ret;exact ⟨⟨b,U',rfl,hb,HR.out,HL.out.1,HL.out.2.1,fun j hj=>HL.out.2.2.1 j (by have:=HE.out;omega),HF.out⟩,HO.out⟩
theorem wh (g gv o m k c cv:Nat) (U V:List Nat) (w:World) (hU:ai w g 70 (U.map fp)) (hV:ai w gv 70 (V.map fp)) (hne:gv≠g) (hUw:Wd U) (hVw:Wd V) (hk:k=m+1) (hoU:o+k<=U.length) (hmV:m<=V.length) (hm9:m<=549755813888) (hcv:m<=cv) :
  Calls Tryz.prog 237 #[.slice (some ⟨g,o,none⟩) k c,.slice (some ⟨gv,0,none⟩) m cv] w fun e w'=>(∃ (b:Nat) (U':List Nat),e=.returned (.tuple #[])/\ai w' g 70 (U'.map fp)/\Wd U'/\U'.length=U.length/\(∀ j,j<o\/o+k<=j->U'.getD j 0=U.getD j 0) /\
   nv ((U'.drop o).take k)+b*4294967296^k=nv ((U.drop o).take k)+nv (V.take m))/\aH g w w':=by
 have HU:=ae hU;have HLN:=ae hoU;have HWU:=ae hUw;have HK:=ae hk;have hk9:k<=549755813889:=by omega
 have hlV:(V.take m).length=m:=by rw [List.length_take];omega
 have HLV:=ae hlV;have HVW:Hid (Wd (V.take m)):=ae (hVw.take m)
 have HWD:Hid (∀ W,aH g w W->∀ i:Nat,Calls Tryz.prog 239 #[.slice (some ⟨gv,0,none⟩) m cv,.int .i64 i] W fun e w'=>e=.returned (.int .u64 (((V.take m).getD i 0:Nat):Int))/\W=w'):=ae fun W hW i=>by
  have h:=hW.row hV hne
  have h2:ah W (.slice (some ⟨gv,0,none⟩) m cv) (V.take m):=by
   refine ⟨_,cv,by rw [hlV],⟨by omega,fun h=>by cases h⟩,by omega,hVw.take m,fun j hj=>⟨gv,0,rfl,?_⟩⟩;rw [hlV] at hj;have:=bl h j (by omega);rw [cw hj,Nat.zero_add];exact this
  exact dX _ _ i W h2
 clear hU hoU hUw hk hlV hV hVw;go_enter Tryz.func237,Tryz.ntmps237;go_wp2;go_loopg [4,8] k (fun kx s4 s8 wr=>∃ (i cy:Nat) (U':List Nat),s4=.int .u64 cy/\s8=.int .i64 i/\i<=k/\k - i<=kx/\cy<=1/\Hid (ai wr g 70 (U'.map fp))/\Hid (Wd U'/\U'.length=U.length/\(∀ j,j<o\/o+i<=j->U'.getD j 0=U.getD j 0))/\Hid (nv ((U'.drop o).take i)+cy*4294967296^i=nv ((U.drop o).take i)+nv ((V.take m).take i))/\Hid (aH g w wr))
 case atStart=>exact ⟨0,0,U,rfl,rfl,Nat.zero_le _,by omega,by omega,HU,ae ⟨HWU.out,rfl,fun _ _=>rfl⟩,ae (by simp [cz]),ae (aH.refl _ _)⟩
 case round =>
  obtain ⟨i,cy,U',rfl,rfl,hi,hkx,hcy,HR,HL,HI,HO⟩:=hrel;by_cases hlt:i<k
  ·have hiU:o+i<U'.length:=by have h1:=HL.out.2.1;have h2:=HLN.out;omega
   have f:=HR.out.free (o+i);have hst:=bl HR.out (o+i) hiU;have hxw:=HL.out.1.getD (o+i);have hux:U'.getD (o+i) 0=U.getD (o+i) 0:=HL.out.2.2 _ (.inr (Nat.le_refl _));have hyw:=HVW.out.getD i;have HX:=ae (fun W hk=>HWD.out W (HO.out.trans (aH.kept hk)) i)
   have HST:Hid (∀ s,s=cy+U'.getD (o+i) 0+(V.take m).getD i 0->nv (((U'.set (o+i) (s % 4294967296)).drop o).take (i+1))+(s / 4294967296)*4294967296^(i+1)=nv ((U.drop o).take (i+1))+nv ((V.take m).take (i+1))):=ae fun s hs=>by
    have h:=kn HI.out hs;rw [ts hiU,qD U,ap (V.take m),<-hux,<-h,Nat.pow_succ,Nat.mul_comm (4294967296^i)]
   generalize (V.take m).getD i 0=y at *;generalize U'.getD (o+i) 0=x at *;obtain ⟨s,hs⟩:∃ s,s=cy+x+y:=⟨_,rfl⟩;have hs9:s<18446744073709551616:=by omega
   obtain ⟨r,hr⟩:∃ r,r=s % 4294967296:=⟨_,rfl⟩;obtain ⟨q,hq⟩:∃ q,q=s / 4294967296:=⟨_,rfl⟩;have hr9:r<4294967296:=by omega
   have hq9:q<=1:=by omega
   have HSS:=ae (HST.out s hs);rw [<-hr,<-hq] at HSS;have e3:(cy:Int)+((x:Int)+(y:Int))=(s:Int):=by omega
   have e6:(s:Int) / 4294967296=(q:Int):=by omega
   have e5:IntKind.u32.wrap (s:Int)=(r:Int):=by rw [IntKind.wrap_u32];omega
   have hkn:(i:Int)<(k:Int):=by omega
   have hNEW:Hid (Wd (U'.set (o+i) r)/\(U'.set (o+i) r).length=U.length/\(∀ j,j<o\/o+(i+1)<=j->(U'.set (o+i) r).getD j 0=U.getD j 0)):=ae ⟨HL.out.1.set _ _ hr9,by rw [List.length_set];exact HL.out.2.1,fun j hj=>by rw [cV (by omega)];exact HL.out.2.2 j (by omega)⟩;have hst':=((af.refl wr).drew).cell hst;clear hs hr hq HST hux;go_wp2;go_region_with ((go_at_call 239;refine (HX.out _ (by first | exact af.refl _ | exact (af.refl _).drew)).mono ?_;rintro e w2 ⟨rfl,rfl⟩))
   all_goals
    go_wp2;go_roundg (k - (i+1))
    case measure=>omega
    case rel=>exact ⟨i+1,q,U'.set (o+i) r,rfl,by go_num,by omega,Nat.le_refl _,hq9,ae (bi (HR.out.kept (af.refl _).drew) _ _),hNEW,HSS,ae ((HO.out.trans (aH.kept (af.refl _).drew)).store _ _)⟩
  ·have hie:i=k:=by omega
   have hf:=HI.out;rw [hie,aC (V.take m) k (by rw [HLV.out,HK.out];omega)] at hf;have HF:=ae hf;have HE:=ae hie;clear hie hf;go_wp2;go_end0;exact ⟨⟨cy,U',rfl,HR.out,HL.out.1,HL.out.2.1,fun j hj=>HL.out.2.2 j (by have:=HE.out;omega),HF.out⟩,HO.out⟩
theorem lK (l:List Nat) (h:∀ i,l.getD i 0=0):nv l=0:=by
 induction l with
 | nil=>rfl
 | cons x l ih =>
  have h0:=h 0;rw [List.getD_cons_zero] at h0;rw [cu,h0,ih fun i=>by have:=h (i+1);rwa [List.getD_cons_succ] at this]
theorem mi {U:List Nat} {j n:Nat} (h:j<U.length):(U.drop j).take (n+1)=U.getD j 0 :: (U.drop (j+1)).take n:=by
 rw [List.drop_eq_getElem_cons h,List.take_succ_cons];simp [List.getD_eq_getElem?_getD,h]
theorem td {U:List Nat} {j m N:Nat} (hlen:j<U.length) (hR:nv (U.drop (j+1))<N) (hN:N<4294967296^(m+2)) :
  nv ((U.drop j).take (m+3))=U.getD j 0+4294967296*nv (U.drop (j+1))/\(∀ i,j+(m+3)<=i->U.getD i 0=0):=by
 obtain ⟨h1,h2⟩:=iV (Nat.lt_trans hR hN);refine ⟨by rw [mi hlen,cu,h2],fun i hi=>?_⟩;have:=h1 (i - (j+1)) (by omega)
 rwa [dw,show j+1+(i - (j+1))=i by omega] at this
theorem vR {U:List Nat} {j m:Nat} (hz:∀ i,j+(m+3)<=i->U.getD i 0=0):nv (U.drop j)=nv ((U.drop j).take (m+3)):=by
 by_cases h:m+3<=(U.drop j).length
 ·rw [eV (U.drop j) (m+3) h,lK ((U.drop j).drop (m+3)) (fun i=>by rw [List.drop_drop,dw];exact hz _ (by omega))];omega
 ·rw [List.take_of_length_le (by omega)]
theorem A' {l:List Nat} (hw:Wd l) {m:Nat} (hm:l.length=m+3):((l.getD (m+2) 0*4294967296+l.getD (m+1) 0)*4294967296+l.getD m 0)*4294967296^m<=nv l/\nv l<((l.getD (m+2) 0*4294967296+l.getD (m+1) 0)*4294967296+l.getD m 0+1)*4294967296^m:=by
 have h1:=eV l m (by omega);rw [aS (by omega),aS (by omega),aS (by omega),da (by omega)] at h1;simp only [Nat.mul_zero,Nat.add_zero] at h1;rw [show m+1+1=m+2 from rfl] at h1;have h2:=dl (hw.take m);rw [List.length_take,Nat.min_eq_left (by omega)] at h2;have e:(l.getD (m+2) 0*4294967296+l.getD (m+1) 0)*4294967296+l.getD m 0=l.getD m 0+4294967296*(l.getD (m+1) 0+4294967296*l.getD (m+2) 0):=by omega
 rw [e];refine ⟨by rw [h1,Nat.mul_comm];omega,?_⟩;rw [Nat.add_mul,Nat.one_mul,Nat.mul_comm _ (4294967296^m)];omega
structure Est (N X m top next a b u2:Nat):Prop where
 top1:2147483648<=top
 top2:top<4294967296
 next2:next<4294967296
 u22:u2<4294967296
 a2:a<4294967296
 b2:b<4294967296
 lo1:top*4294967296^(m+1)<=N
 lo2:(top*4294967296+next)*4294967296^m<=N
 hi2:N<(top*4294967296+next+1)*4294967296^m
 xhi:X<(a*4294967296+b+1)*4294967296^(m+1)
 xlo3:((a*4294967296+b)*4294967296+u2)*4294967296^m<=X
 xhi3:X<((a*4294967296+b)*4294967296+u2+1)*4294967296^m
 xw:X<N*4294967296
theorem Est.make {V S:List Nat} {m X N R u0:Nat} (hV:V.length=m+2) (hwV:Wd V) (hN:nv V=N) (hS:S.length=m+3) (hwS:Wd S) (hX:nv S=X) (ht:2147483648<=V.getD (m+1) 0) (hX2:X=u0+4294967296*R) (hR:R<N) (hu:u0<4294967296) :
  Est N X m (V.getD (m+1) 0) (V.getD m 0) (S.getD (m+2) 0) (S.getD (m+1) 0) (S.getD m 0):=by
 have hxw:X<N*4294967296:=by omega
 obtain ⟨_,h1,h2⟩:=nI hwV hV;obtain ⟨_,h3,_⟩:=eZ hwV (m:=m+1) hV;obtain ⟨h4,h5⟩:=A' hwS hS;obtain ⟨_,_,h6⟩:=nI hwS (m:=m+1) hS;have e1:V.getD m 0+4294967296*V.getD (m+1) 0=V.getD (m+1) 0*4294967296+V.getD m 0:=by omega
 rw [show m+1+1=m+2 from rfl] at h6;have e2:S.getD (m+1) 0+4294967296*S.getD (m+2) 0=S.getD (m+2) 0*4294967296+S.getD (m+1) 0:=by omega
 rw [e1] at h1 h2;rw [e2] at h6;rw [hN] at h1 h2 h3;rw [hX] at h4 h5 h6;exact ⟨ht,hwV.getD _,hwV.getD _,hwS.getD _,hwS.getD _,hwS.getD _,h3,h1,h2,h6,h4,h5,hxw⟩
theorem Est.pos {N X m top next a b u2:Nat} (h:Est N X m top next a b u2):0<N:=by
 have h1:=h.lo1;have h2:=h.top1;have h3:0<4294967296^(m+1):=Nat.pow_pos (by omega);have h4:1*4294967296^(m+1)<=top*4294967296^(m+1):=Nat.mul_le_mul_right _ (by omega);omega
theorem Est.head {N X m top next a b u2:Nat} (h:Est N X m top next a b u2):a<=top:=by
 have h1:a*4294967296^(m+2)<=X:=by
  refine Nat.le_trans ?_ h.xlo3;rw [Nat.pow_succ,Nat.pow_succ,Nat.mul_assoc,Nat.mul_comm (4294967296^m),<-Nat.mul_assoc,<-Nat.mul_assoc];exact Nat.mul_le_mul_right _ (by omega)
 have h2:N<(top+1)*4294967296^(m+1):=by
  refine Nat.lt_of_lt_of_le h.hi2 ?_;rw [Nat.pow_succ,Nat.mul_comm (4294967296^m),<-Nat.mul_assoc];exact Nat.mul_le_mul_right _ (by have:=h.next2;omega)
 have h3:a*4294967296^(m+2)<(top+1)*4294967296^(m+2):=by
  refine Nat.lt_of_le_of_lt h1 (Nat.lt_of_lt_of_le h.xw ?_);rw [Nat.pow_succ 4294967296 (m+1),<-Nat.mul_assoc];exact Nat.mul_le_mul_right _ (Nat.le_of_lt h2)
 have:=Nat.lt_of_mul_lt_mul_right h3;omega
structure gd (N X top head g r:Nat):Prop where
 sum:g*top+r=head
 ge:X / N<=g
theorem gd.start {N X m top next a b u2:Nat} (h:Est N X m top next a b u2) {head:Nat} (hh:head=a*4294967296+b):gd N X top head (head / top) (head % top)/\head % top<4294967296/\head / top<18446744073709551616/\head<18446744073709551616:=by
 have ht:=h.top1;have ht2:=h.top2;have h1:=Nat.mod_lt head (show 0<top by omega);have h2:head<18446744073709551616:=by have:=h.a2;have:=h.b2;omega
 refine ⟨⟨by rw [Nat.mul_comm];exact Nat.div_add_mod head top,pu h.lo1 (by rw [hh];exact h.xhi) (by omega)⟩,by omega,Nat.lt_of_le_of_lt (Nat.div_le_self _ _) h2,h2⟩
theorem gd.next {N X m top next a b u2 head g r:Nat} (h:Est N X m top next a b u2) (hh:head=a*4294967296+b) (he:gd N X top head g r) (hg:4294967296<=g\/r*4294967296+u2<g*next):∃ g',g=g'+1/\gd N X top head g' (r+top):=by
 have h1:X / N<g:=by
  rcases vV he.sum hg with h2 | h2
  ·rw [hh] at h2;exact tZ h.lo2 h.xhi3 h2
  ·have h3:X / N<4294967296:=Nat.div_lt_of_lt_mul h.xw;omega
 have h4:0<g:=Nat.lt_of_le_of_lt (Nat.zero_le _) h1;refine ⟨g - 1,(Nat.sub_add_cancel h4).symm,?_,Nat.le_sub_one_of_lt h1⟩;have h3:=he.sum;clear h1;obtain ⟨g',rfl⟩:∃ g',g=g'+1:=⟨g - 1,by omega⟩;rw [Nat.add_mul,Nat.one_mul] at h3;rw [Nat.add_sub_cancel];omega
theorem gd.good {N X m top next a b u2 head g r:Nat} (h:Est N X m top next a b u2) (hh:head=a*4294967296+b) (he:gd N X top head g r) (hg:(g<4294967296/\g*next<=r*4294967296+u2)\/4294967296<=r):g<4294967296/\X / N<=g/\g<=X / N+1:=by
 have h1:g<4294967296/\g*(top*4294967296+next)<=head*4294967296+u2:=by
  rcases hg with ⟨h1,h2⟩ | h2
  ·exact ⟨h1,pm he.sum h2⟩
  ·exact tT he.sum h2 (by have:=h.head;have:=h.b2;rw [hh,Nat.add_mul];omega) h.next2 (by have:=h.top1;omega)
 refine ⟨h1.1,he.ge,wt (V2:=top*4294967296+next) (P:=4294967296^m) (head3:=head*4294967296+u2) h.hi2 (by rw [hh];exact h.xlo3) h1.2 ?_ h.pos⟩;refine Nat.le_trans ?_ h.lo2;exact Nat.mul_le_mul_right _ (by have:=h.top1;omega)
theorem mD {x:Nat} (h:x<2^64):x<2^Lib.bitLen x:=by
 rcases Nat.lt_or_ge x (2^Lib.bitLen x) with h1 | h1
 ·exact h1
 ·exfalso
  have h2:=Lib.bitLen_shift _ x h1 h
  have h3:x / 2^Lib.bitLen x≠0:=by
   have:=Nat.div_pos h1 (Nat.two_pow_pos _);omega
  have h4:=Lib.bitLen_half _ h3 (Nat.lt_of_le_of_lt (Nat.div_le_self _ _) h);omega
theorem mC {x:Nat} (h:x<2^64) (h0:x≠0):∃ k,Lib.bitLen x=k+1/\2^k<=x:=by
 have h1:=Lib.bitLen_half x h0 h;refine ⟨Lib.bitLen (x / 2),by omega,?_⟩;rcases Nat.lt_or_ge x (2^Lib.bitLen (x / 2)) with h2 | h2
 ·exfalso
  have h3:Lib.bitLen (x / 2)<=64:=Lib.bitLen_le _ 64 (Nat.le_refl _) (Nat.lt_of_le_of_lt (Nat.div_le_self _ _) h);have:=Lib.bitLen_le x _ h3 h2;omega
 ·exact h2
theorem mW {x:Nat} (h:x<4294967296) (h0:x≠0):∃ s:Nat,(32 - (Lib.bitLen x:Int))=(s:Int)/\s<32/\2147483648<=x*2^s/\x*2^s<4294967296:=by
 have h1:x<2^64:=Nat.lt_of_lt_of_le h (by omega);obtain ⟨k,hk,h2⟩:=mC h1 h0;have h3:Lib.bitLen x<=32:=Lib.bitLen_le x 32 (by omega) (by rw [show (2:Nat)^32=4294967296 by rfl];exact h);have h4:=mD h1;rw [hk] at h3 h4⊢;refine ⟨31 - k,by omega,by omega,?_,?_⟩
 ·have h5:2^k*2^(31 - k)<=x*2^(31 - k):=Nat.mul_le_mul_right _ h2;rw [<-Nat.pow_add,show k+(31 - k)=31 by omega] at h5;rw [show (2147483648:Nat)=2^31 by rfl];exact h5
 ·have h5:x*2^(31 - k)<2^(k+1)*2^(31 - k):=(Nat.mul_lt_mul_right (Nat.two_pow_pos _)).2 h4;rw [<-Nat.pow_add,show k+1+(31 - k)=32 by omega] at h5;rw [show (4294967296:Nat)=2^32 by rfl];exact h5
theorem qO (w:World) (x y:Nat) (hx:x<4294967296) (hy:y<4294967296):ah (w.alloc (.cells #[.int .u32 (x:Int),.int .u32 (y:Int)] 70)) (.slice (some ⟨w.heap.size,0,none⟩) 2 2) [x,y] :=
 ⟨_,2,rfl,⟨by simp,fun h=>by cases h⟩,by simp,Wd.cons hx (Wd.cons hy Wd.nil),fun i hi=>⟨w.heap.size,0,rfl,by
  have:i=0\/i=1:=by simp at hi;omega
  rcases this with rfl | rfl <;> simp⟩⟩
theorem jC (w:World) (x:Nat) (hx:x<4294967296):ah (w.alloc (.cells #[.int .u32 (x:Int)] 70)) (.slice (some ⟨w.heap.size,0,none⟩) 1 1) [x] :=
 ⟨_,1,rfl,⟨by simp,fun h=>by cases h⟩,by simp,Wd.cons hx Wd.nil,fun i hi=>⟨w.heap.size,0,rfl,by
  have:i=0:=by simp at hi;omega
  subst this;simp⟩⟩
theorem th (n:Nat) (w:World) (hn:n<9223372036854775808):Calls Tryz.prog 207 #[.int .i64 n] w fun e w'=>(∃ v',e=.returned v'/\ah w' v' (nw n))/\af w w':=by
 by_cases h0:n=0
 ·subst h0;go_enter Tryz.func207,Tryz.ntmps207;go_wp2;go_ret;exact ⟨⟨_,rfl,by rw [bY];exact ah.nil _⟩,af.refl _⟩
 ·obtain ⟨x,hx⟩:∃ x,x=n % 4294967296:=⟨_,rfl⟩;obtain ⟨y,hy⟩:∃ y,y=n / 4294967296:=⟨_,rfl⟩;have hx9:x<4294967296:=by omega
  have hy9:y<4294967296:=by omega
  have hv:nv [x,y]=n:=by simp [nv];omega
  have e1:IntKind.u32.wrap (n:Int)=(x:Int):=by rw [IntKind.wrap_u32];omega
  have e2:(n:Int) / 4294967296=(y:Int):=by omega
  have hp:¬ (n:Int)<=0:=by omega
  have HT:Hid (∀ W:World,Calls Tryz.prog 116 #[.slice (some ⟨W.heap.size,0,none⟩) 2 2] (W.alloc (.cells #[.int .u32 (x:Int),.int .u32 (y:Int)] 70)) fun e w'=>(∃ v',e=.returned v'/\ah w' v' (nw n))/\af (W.alloc (.cells #[.int .u32 (x:Int),.int .u32 (y:Int)] 70)) w'):=ae fun W=>by
   have h:=bh _ _ _ (qO W x y hx9 hy9);rw [hv] at h;exact h
  clear hx hy hv h0;go_enter Tryz.func207,Tryz.ntmps207;go_wp2_with (go_at_call 116;refine (HT.out _).mono ?_;rintro e w2 ⟨⟨v2,rfl,hv2⟩,hk2⟩;have HV2:=ae hv2;have HK2:=ae hk2;clear hv2 hk2);go_ret;exact ⟨⟨_,rfl,HV2.out⟩,((af.refl _).alloc _).trans HK2.out⟩
theorem pD (va:Value) (xs:List Nat) (n:Nat) (w:World) (ha:ah w va xs) (hn:n<32) (hla:xs.length<=549755813888) :
  Calls Tryz.prog 235 #[va,.int .i64 n] w fun e w'=>(∃ g L,e=.returned (.slice (some ⟨g,0,none⟩) (xs.length+1) (xs.length+1))/\w.heap.size<=g/\ai w' g 70 (L.map fp)/\L.length=xs.length+1/\Wd L/\nv L=nv xs*2^n)/\af w w' :=
 (wB va xs n w ha hn hla).mono fun _ _ h=>⟨let ⟨L,h1,h2,h3,h4,h5⟩:=h.1;⟨w.heap.size,L,h1,Nat.le_refl _,h2,h3,h4,h5⟩,h.2⟩
theorem y_ {V bs:List Nat} {s m:Nat} (hs:s<32) (hl:bs.length=m+2) (hV:V.length=m+3) (hw:Wd V) (hwb:Wd bs) (hv:nv V=nv bs*2^s) (h1:2147483648<=bs.getD (m+1) 0*2^s) (h2:bs.getD (m+1) 0*2^s<4294967296) :
  nv (V.take (m+2))=nv bs*2^s/\2147483648<=V.getD (m+1) 0/\nv bs*2^s<4294967296^(m+2):=by
 obtain ⟨_,h3,h4⟩:=eZ hwb (m:=m+1) hl
 have hlt:nv bs*2^s<4294967296^(m+2):=by
  have h5:(bs.getD (m+1) 0+1)*2^s<=4294967296:=by
   have e:(4294967296:Nat)=2^(32 - s)*2^s:=by rw [<-Nat.pow_add,show 32 - s+s=32 by omega]
   rw [e] at h2⊢;exact Nat.mul_le_mul_right _ (Nat.lt_of_mul_lt_mul_right h2)
  have h6:nv bs*2^s<(bs.getD (m+1) 0+1)*4294967296^(m+1)*2^s:=(Nat.mul_lt_mul_right (Nat.two_pow_pos _)).2 h4;have h7:(bs.getD (m+1) 0+1)*4294967296^(m+1)*2^s=(bs.getD (m+1) 0+1)*2^s*4294967296^(m+1):=by rw [Nat.mul_assoc,Nat.mul_comm (4294967296^(m+1)),<-Nat.mul_assoc]
  have h8:(bs.getD (m+1) 0+1)*2^s*4294967296^(m+1)<=4294967296*4294967296^(m+1):=Nat.mul_le_mul_right _ h5;rw [Nat.pow_succ,Nat.mul_comm (4294967296^(m+1))];omega
 have hz:=iV (l:=V) (k:=m+2) (by rw [hv];exact hlt);refine ⟨by rw [hz.2,hv],?_,hlt⟩;have hl2:(V.take (m+2)).length=m+2:=by rw [List.length_take];omega
 obtain ⟨_,h5,h6⟩:=eZ (hw.take (m+2)) (m:=m+1) hl2;rw [hz.2,hv,cw (by omega)] at h6
 have h7:bs.getD (m+1) 0*2^s*4294967296^(m+1)<=nv bs*2^s:=by
  rw [Nat.mul_assoc,Nat.mul_comm (2^s),<-Nat.mul_assoc];exact Nat.mul_le_mul_right _ h3
 have h8:bs.getD (m+1) 0*2^s*4294967296^(m+1)<(V.getD (m+1) 0+1)*4294967296^(m+1):=by omega
 have h9:=Nat.lt_of_mul_lt_mul_right h8;omega
theorem ry {U0:List Nat} {A s l1 m L N:Nat} (hs:s<32) (hA:A<4294967296^l1) (hU:nv U0=A*2^s) (hp:U0.length=l1+1) (hL:L+(m+2)=l1+1) (hN:2147483648*4294967296^(m+1)<=N):nv (U0.drop L)<N:=by
 have h1:=eV U0 L (by omega)
 have h2:4294967296^L*nv (U0.drop L)<4294967296^l1*2^s:=by
  have:A*2^s<4294967296^l1*2^s:=(Nat.mul_lt_mul_right (Nat.two_pow_pos _)).2 hA
  omega
 rw [show l1=L+(m+1) by omega,Nat.pow_add,Nat.mul_assoc] at h2;have h3:=Nat.lt_of_mul_lt_mul_left h2;have h4:2^s<=2^31:=Nat.pow_le_pow_right (by omega) (by omega);have h5:4294967296^(m+1)*2^s<=4294967296^(m+1)*2147483648:=Nat.mul_le_mul_left _ (by rw [show (2147483648:Nat)=2^31 by rfl];exact h4);rw [Nat.mul_comm _ 2147483648] at h5;omega
structure gb (U0 U Q:List Nat) (N L p k:Nat):Prop where
 lu:U.length=p
 wu:Wd U
 lq:Q.length=L
 wq:Wd Q
 eq:nv (U0.drop k)=N*nv (Q.drop k)+nv (U.drop k)
 lt:nv (U.drop k)<N
 same:∀ i,i<k->U.getD i 0=U0.getD i 0
theorem gb.step {U0 U Q:List Nat} {N L p j m:Nat} (h:gb U0 U Q N L p (j+1)) (hp:U0.length=p) (hj:j<L) (hjp:j+(m+3)<=p) (hN:N<4294967296^(m+2)) {g:Nat} (hg:g<4294967296) {X:Nat} (hX:X=nv ((U.drop j).take (m+3))) (hgX:g=X / N)
  {U2:List Nat} (hl:U2.length=p) (hw:Wd U2) (hs:∀ i,i<j\/j+(m+3)<=i->U2.getD i 0=U.getD i 0) (hv:nv ((U2.drop j).take (m+3))=X % N):gb U0 U2 (Q.set j g) N L p j:=by
 obtain ⟨h1,h2⟩:=td (U:=U) (j:=j) (m:=m) (by have:=h.lu;omega) h.lt hN;have hz2:∀ i,j+(m+3)<=i->U2.getD i 0=0:=fun i hi=>by rw [hs i (.inr hi)];exact h2 i hi
 have e2:=vR (U:=U2) (j:=j) (m:=m) hz2;rw [hv] at e2;have hNp:0<N:=Nat.lt_of_le_of_lt (Nat.zero_le _) h.lt;refine ⟨hl,hw,by rw [List.length_set];exact h.lq,h.wq.set _ _ hg,?_,by rw [e2];exact Nat.mod_lt _ hNp,fun i hi=>by rw [hs i (.inl hi)];exact h.same i (by omega)⟩;rw [e2,aS (l:=U0) (by omega),aS (l:=Q.set j g) (by rw [List.length_set];have:=h.lq;omega),ek (by have:=h.lq;omega),List.drop_set_of_lt (by omega),hgX];refine mZ h.eq X ?_;rw [hX,h1,h.same j (by omega)]
theorem wl {S1 S2 b2 M R N:Nat} (h:S2+b2*M=S1+N) (h1:S1+N=R+M) (hS2:S2<M) (hR:R<M):S2=R:=by
 rcases Nat.lt_or_ge b2 2 with h2 | h2
 ·rcases (by omega:b2=0\/b2=1) with rfl | rfl <;> omega
 ·have:2*M<=b2*M:=Nat.mul_le_mul_right _ h2
  omega
theorem sx {U:List Nat} (h:Wd U) (j k:Nat):nv ((U.drop j).take k)<4294967296^k:=by
 refine Nat.lt_of_lt_of_le (dl ((h.drop j).take k)) (Nat.pow_le_pow_right (by omega) ?_);rw [List.length_take];omega
theorem gb.est {U0 U Q V:List Nat} {N L p j m:Nat} (h:gb U0 U Q N L p (j+1)) (hjp:j+(m+3)<=p) (hN:N<4294967296^(m+2)) (hwV:Wd V) (hlV:m+2<=V.length) (hv:nv (V.take (m+2))=N) (ht:2147483648<=V.getD (m+1) 0) :
  Est N (nv ((U.drop j).take (m+3))) m (V.getD (m+1) 0) (V.getD m 0) (U.getD (j+(m+2)) 0) (U.getD (j+(m+1)) 0) (U.getD (j+m) 0):=by
 have hlu:=h.lu;obtain ⟨h1,_⟩:=td (U:=U) (j:=j) (m:=m) (by omega) h.lt hN;have h2:=Est.make (V:=V.take (m+2)) (S:=(U.drop j).take (m+3)) (m:=m) (by rw [List.length_take];omega) (hwV.take _) hv (by rw [List.length_take,List.length_drop];omega) ((h.wu.drop j).take _) rfl (by rw [cw (by omega)];exact ht) h1 h.lt (h.wu.getD j);rw [cw (by omega),cw (by omega),cw (by omega),cw (by omega),cw (by omega),dw,dw,dw] at h2;exact h2
theorem gb.start {U0 V:List Nat} {A N L p l1 m s:Nat} (hs:s<32) (hA:A<4294967296^l1) (hU:nv U0=A*2^s) (hp:U0.length=l1+1) (hp2:p=l1+1) (hL:L+(m+2)=l1+1) (hw:Wd U0) (hwV:Wd V) (hlV:m+2<=V.length) (hv:nv (V.take (m+2))=N) (ht:2147483648<=V.getD (m+1) 0):gb U0 U0 (List.replicate L 0) N L p L:=by
 refine ⟨by omega,hw,by simp,Wd.zeros _,by rw [da (l:=List.replicate L 0) (by simp)];simp,ry hs hA hU hp hL ?_,fun _ _=>rfl⟩;obtain ⟨_,h2,_⟩:=eZ (hwV.take (m+2)) (m:=m+1) (by rw [List.length_take];omega);rw [cw (by omega),hv] at h2;exact Nat.le_trans (Nat.mul_le_mul_right _ ht) h2
theorem gb.done {U0 U Q:List Nat} {A B N L p s:Nat} (h:gb U0 U Q N L p 0) (hU:nv U0=A*2^s) (hN:N=B*2^s):A / B=nv Q/\nv U / 2^s=A % B:=by
 have h1:=h.eq;have h2:=h.lt;simp only [List.drop_zero] at h1 h2;rw [hU,hN] at h1;rw [hN] at h2;exact nD h1 h2
theorem uB (va vb:Value) (xs ys:List Nat) (m:Nat) (w:World) (ha:ah w va xs) (hb:ah w vb ys) (hla:xs.length<=274877906944) (hm:(nw (nv ys)).length=m+2) (hle:nv ys<=nv xs) :
  Calls Tryz.prog 177 #[va,vb] w fun e w'=>(∃ v1 v2,e=.returned (.tuple #[v1,v2,.nilIface])/\ah w' v1 (nw (nv xs / nv ys))/\ah w' v2 (nw (nv xs % nv ys)))/\af w w':=by
 have HTA:=ae (fun W (hk:af w W)=>bh va xs W (ha.kept hk));have HTB:=ae (fun W (hk:af w W)=>bh vb ys W (hb.kept hk));obtain ⟨a0,c0,rfl⟩:=ha.shape;obtain ⟨a1,c1,rfl⟩:=hb.shape;obtain ⟨l1,hl1⟩:∃ l1,l1=(nw (nv xs)).length:=⟨_,rfl⟩
 have hl19:l1<=274877906944:=by
  rw [hl1];exact Nat.le_trans (aL.2 (dl ha.wd)) hla
 have hl1m:m+2<=l1:=by
  rcases Nat.lt_or_ge l1 (m+2) with h | h
  ·have:=jT (m:=nv xs) (n:=nv ys) (by omega);omega
  ·exact h
 obtain ⟨A,hA⟩:∃ A,A=nv xs:=⟨_,rfl⟩;obtain ⟨B,hB⟩:∃ B,B=nv ys:=⟨_,rfl⟩;rw [<-hA] at HTA hl1 hle⊢;rw [<-hB] at HTB hm hle⊢;obtain ⟨l2,hl2⟩:∃ l2,l2=m+2:=⟨_,rfl⟩;obtain ⟨m1,hm1⟩:∃ m1,m1=m+1:=⟨_,rfl⟩;obtain ⟨L,hL⟩:∃ L,L+(m+2)=l1+1:=⟨l1+1 - (m+2),by omega⟩;obtain ⟨x,hx⟩:∃ x,x=(nw B).getD m1 0:=⟨_,rfl⟩;have hx9:x<4294967296:=by rw [hx];exact (dN B).getD _
 have hx0:x≠0:=by
  have h:=wY B;have hne:nw B≠[]:=fun e=>by rw [e] at hm;simp at hm
  have h2:=h hne;rw [List.getLast_eq_getElem] at h2;rw [hx,List.getD_eq_getElem?_getD,hm1,show m+1=(nw B).length - 1 by omega,List.getElem?_eq_getElem (by omega)];exact h2
 obtain ⟨s,hs,hs32,hxs1,hxs2⟩:=mW hx9 hx0
 have HLZ:Hid (∀ W:World,Calls Tryz.prog 234 #[.int .u32 (x:Int)] W fun e w'=>e=.returned (.int .i64 (s:Int))/\w'=W):=ae fun W=>by
  have h:=Tryz.bits_LeadingZeros32 (x:Int) W (by omega) (by omega);simp only [Int.toNat_natCast,hs] at h;exact h
 have hcm:¬ cU A B<0:=by
  rcases Nat.lt_or_ge B A with h | h
  ·rw [eJ h];omega
  ·rw [fe (by omega)];omega
 obtain ⟨cm,hcm2⟩:∃ cm,cm=cU A B:=⟨_,rfl⟩;rw [<-hcm2] at hcm;have HCM:=ae hcm2;have HM:=ae hm;have HL1:=ae hl1;have HX:=ae hx;have HXS:=ae (And.intro hxs1 hxs2);have HLE:=ae hle;have HLL:=ae hL;have HL2:=ae hl2;have HM1:=ae hm1;have e21:(l2:Int) - 1=(m1:Int):=by omega
 have e20:(l2:Int) - 2=(m:Int):=by omega
 have hb21:m1<l2:=by omega
 have hb20:m<l2:=by omega
 have hl2n0:((l2:Int) == 0)=false:=by simp;omega
 have hl2n1:((l2:Int) == 1)=false:=by simp;omega
 obtain ⟨p1,hp1⟩:∃ p1,p1=l1+1:=⟨_,rfl⟩;obtain ⟨p2,hp2⟩:∃ p2,p2=l2+1:=⟨_,rfl⟩;have eL:(p1:Int) - (l2:Int)=(L:Int):=by omega
 have hp19:p1<=274877906945:=by omega
 have hL9:L<=274877906945:=by omega
 have hp29:p2<=274877906945:=by omega
 have hl29:l2<=274877906944:=by omega
 have hl2p:l2<=p2:=by omega
 have HP1:=ae hp1;have HP2:=ae hp2;generalize hg0:xs.length=n0 at *;generalize hg1:ys.length=n1 at *;clear hg0 hg1 ha hb hl1 hl1m hA hB hl2 hm1 hL hx hx0 hs hxs1 hxs2 hcm2 hm hle hla hp1 hp2;go_enter Tryz.func177,Tryz.ntmps177;go_wp2_with fail;refine (HTA.out _ (af.refl _)).mono ?_;rintro e w1 ⟨⟨v1,rfl,hv1⟩,hk1⟩;go_wp2_with fail;refine (HTB.out _ hk1).mono ?_;rintro e w2 ⟨⟨v2,rfl,hv2⟩,hk2⟩;have hv1':=hv1.kept hk2;have HK2:=ae (hk1.trans hk2);obtain ⟨a2,c2,rfl⟩:=hv1'.shape;obtain ⟨a3,c3,rfl⟩:=hv2.shape;rw [HM.out,<-HL2.out] at hv2⊢;rw [<-HL1.out] at hv1'⊢;have H1:=ae hv1';have H2:=ae hv2;clear hv1 hv1' hv2 hk1 hk2;obtain ⟨b3,o3,rfl,hc3⟩:=H2.out.get m1 (by rw [HM.out,HM1.out];omega);rw [<-HX.out] at hc3;go_wp2_with fail;refine (dM _ _ _ _ _ H1.out H2.out).mono ?_;rintro e w3 ⟨rfl,hk3⟩;rw [am,am,<-HCM.out];have hc3':=hk3.cell hc3;have HK3:=ae hk3;clear hc3 hk3;go_wp2_with fail;refine (HLZ.out _).mono ?_;rintro e w4 ⟨rfl,rfl⟩;go_wp2_with fail;refine (pD _ _ s _ (H2.out.kept HK3.out) hs32 (by rw [HM.out];omega)).mono ?_;rintro e w5 ⟨⟨gv,V,rfl,hgv,hrv,hlv,hwv,hvv⟩,hk5⟩;rw [HM.out,<-HL2.out,<-HP2.out];go_wp2_with fail;refine (pD _ _ s _ ((H1.out.kept HK3.out).kept hk5) hs32 (by rw [<-HL1.out];omega)).mono ?_;rintro e w6 ⟨⟨gu,U0,rfl,hgu,hru,hlu,hwu,hvu⟩,hk6⟩;rw [<-HL1.out,<-HP1.out];have HGVU:=ae (Nat.lt_of_lt_of_le hrv.lt hgu)
 have HGV:=ae hgv;have HRV:=ae (hrv.kept hk6);have HRU:=ae hru;have HK6:=ae (hk5.trans hk6);have HV:=ae (And.intro hlv (And.intro hwv hvv));have HU:=ae (And.intro hlu (And.intro hwu hvu));clear hgv hgu hrv hru hk5 hk6 hlv hwv hvv hlu hwu hvu;obtain ⟨N,hN⟩:∃ N,N=B*2^s:=⟨_,rfl⟩;have HN:=ae hN;clear hN
 have HSH:Hid (nv (V.take (m+2))=N/\2147483648<=V.getD (m+1) 0/\N<4294967296^(m+2)):=ae (by
  have h:=y_ (bs:=nw B) (V:=V) (m:=m) hs32 HM.out (by rw [HV.out.1,HM.out]) HV.out.2.1 (dN B) HV.out.2.2 (by rw [<-HM1.out,<-HX.out];exact HXS.out.1) (by rw [<-HM1.out,<-HX.out];exact HXS.out.2);rw [am,<-HN.out] at h;exact h)
 have hlv1:m1<V.length:=by rw [HV.out.1,HM.out,HM1.out];omega
 have hct:=bl HRV.out m1 hlv1;have hcn:=bl HRV.out m (by have:=HM1.out;omega);have htw:=HV.out.2.1.getD m1;have hnw:=HV.out.2.1.getD m;obtain ⟨top,htop⟩:∃ top,top=V.getD m1 0:=⟨_,rfl⟩;obtain ⟨nxt,hnxt⟩:∃ nxt,nxt=V.getD m 0:=⟨_,rfl⟩;rw [<-htop] at hct htw;rw [<-hnxt] at hcn hnw;have htb:2147483648<=top:=by rw [htop,HM1.out];exact HSH.out.2.1
 have HTOP:=ae htop;have HNXT:=ae hnxt;clear htop hnxt hlv1;go_wp2_with fail;go_quiet (fail);go_wp2_with (refine cX 27 70 (.int .u32 0) 4 cI Tryz.underlying27 rfl rfl _ _ rfl L rfl rfl (by omega) (by unfold maxLen;omega) ?_;intro w7 hr7 hk7);have HR7:Hid (ai w7 w6.heap.size 70 ((List.replicate L 0).map fp)):=ae (cW hr7);have HK7:Hid (af w6 w7):=ae (((af.refl w6).drewN _).trans hk7);clear hr7 hk7;have HKW:Hid (af w w7):=ae (((HK2.out.trans HK3.out).trans HK6.out).trans HK7.out)
 have hgw:w.heap.size<=gu:=by
  have h2:=(HK2.out.trans HK3.out).size;have h3:=HGV.out;have h4:=HGVU.out;omega
 have hgq:w.heap.size<=w6.heap.size:=((HK2.out.trans HK3.out).trans HK6.out).size;have hgvu:gv≠gu:=by have:=HGVU.out;omega
 have hguq:gu≠w6.heap.size:=by have:=HRU.out.lt;omega
 have hgvq:gv≠w6.heap.size:=by have:=HRV.out.lt;omega
 have HGW:=ae hgw;have HGQ:=ae hgq;have HGVU:=ae hgvu;have HGUQ:=ae hguq;have HGVQ:=ae hgvq;have HST:Hid (gb U0 U0 (List.replicate L 0) N L p1 L):=ae (gb.start hs32 (A:=A) (l1:=l1) (m:=m) (V:=V) (s:=s) (by rw [HL1.out];exact aL.1 (Nat.le_refl _)) (by have:=HU.out.2.2;rwa [am] at this) (by rw [HU.out.1,HL1.out]) HP1.out HLL.out HU.out.2.1 HV.out.2.1 (by rw [HV.out.1,HM.out];omega) HSH.out.1 HSH.out.2.1);have HRU7:=ae (HRU.out.kept HK7.out);have HRV7:=ae (HRV.out.kept HK7.out);clear hc3' hct hcn hgw hgq hgvu hguq hgvq HRU HRV;generalize w6.heap.size=gq at *;go_loopg [14] L (fun kx s14 wr=>∃ (k:Nat) (U Q:List Nat),s14=.int .i64 ((k:Int) - 1)/\k<=L/\k<=kx/\Hid (ai wr gu 70 (U.map fp))/\Hid (ai wr gv 70 (V.map fp))/\Hid (ai wr gq 70 (Q.map fp))/\Hid (gb U0 U Q N L p1 k)/\Hid (af w wr))
 case atStart=>exact ⟨L,U0,List.replicate L 0,rfl,Nat.le_refl _,Nat.le_refl _,HRU7,HRV7,HR7,HST,HKW⟩
 case round =>
  clear HRU7 HRV7 HR7 HST HKW HK7 HK6 HK3 HK2;obtain ⟨wo,rfl⟩:∃ wo:World,wo=wr:=⟨_,rfl⟩;obtain ⟨k,U,Q,rfl,hk,hkx,HRU,HRV,HRQ,HD,HK⟩:=hrel;by_cases hk0:k=0
  ·subst hk0;have hdn:=HD.out.done (A:=A) (B:=B) (s:=s) (by have:=HU.out.2.2;rwa [am] at this) HN.out;have HDN:=ae hdn
   have HQA:Hid (ah wo (.slice (some ⟨gq,0,none⟩) L L) Q):=ae (by
    have h:=eN HRQ.out (c:=L) (by rw [HD.out.lq];exact Nat.le_refl _) (by rw [HD.out.lq];omega) HD.out.wq;rw [HD.out.lq] at h;exact h)
   have HUA:Hid (ah wo (.slice (some ⟨gu,0,none⟩) p1 p1) U):=ae (by
    have h:=eN HRU.out (c:=p1) (by rw [HD.out.lu];exact Nat.le_refl _) (by rw [HD.out.lu];omega) HD.out.wu;rw [HD.out.lu] at h;exact h)
   clear hdn;go_wp2_with fail;refine (bh _ _ _ HQA.out).mono ?_;rintro e w8 ⟨⟨v8,rfl,hv8⟩,hk8⟩;go_wp2_with fail;refine (uP _ _ s _ (HUA.out.kept hk8) hs32).mono ?_;rintro e w9 ⟨⟨v9,L9,rfl,hv9,hq9⟩,hk9⟩;go_wp2_with fail;refine (bh _ _ _ hv9).mono ?_;rintro e w10 ⟨⟨v10,rfl,hv10⟩,hk10⟩;have H8:=ae ((hv8.kept hk9).kept hk10);rw [hq9,HDN.out.2] at hv10;have H10:=ae hv10;have HK10:=ae ((hk8.trans hk9).trans hk10);clear hv8 hv9 hq9 hv10 hk8 hk9 hk10;obtain ⟨a8,c8,rfl⟩:=H8.out.shape;obtain ⟨a10,c10,rfl⟩:=H10.out.shape;go_wp2;go_ret3;exact ⟨⟨_,_,rfl,by rw [HDN.out.1];exact H8.out,H10.out⟩,HK.out.trans HK10.out⟩
  ·obtain ⟨j,rfl⟩:∃ j,k=j+1:=⟨k - 1,by omega⟩;have hml:=HLL.out;have hm2:=HL2.out;have hm3:=HM1.out;have hp1:=HP1.out;have hp2:=HP2.out;obtain ⟨i2,hi2⟩:∃ i2,i2=j+l2:=⟨_,rfl⟩;obtain ⟨i1,hi1⟩:∃ i1,i1=j+m1:=⟨_,rfl⟩;obtain ⟨i0,hi0⟩:∃ i0,i0=j+m:=⟨_,rfl⟩;obtain ⟨i3,hi3⟩:∃ i3,i3=j+p2:=⟨_,rfl⟩;have hjp:j+(m+3)<=p1:=by omega
   have hE:=HD.out.est hjp HSH.out.2.2 HV.out.2.1 (by rw [HV.out.1,HM.out];omega) HSH.out.1 HSH.out.2.1;have hca:=bl HRU.out i2 (by rw [HD.out.lu];omega);have hcb:=bl HRU.out i1 (by rw [HD.out.lu];omega);have hcu:=bl HRU.out i0 (by rw [HD.out.lu];omega);rw [<-hm2,<-hm3,<-hi2,<-hi1,<-hi0,<-HTOP.out,<-HNXT.out] at hE;obtain ⟨X,hX⟩:∃ X,X=nv ((U.drop j).take (m+3)):=⟨_,rfl⟩;rw [<-hX] at hE;generalize U.getD i2 0=a at *;generalize U.getD i1 0=b at *;generalize U.getD i0 0=u2 at *;have ha9:=hE.a2;have hb9:=hE.b2;have hu9:=hE.u22;have HE:=ae hE;have HXX:=ae hX;obtain ⟨hd,hhd⟩:∃ hd,hd=a*4294967296+b:=⟨_,rfl⟩;have eor:=gO a b ha9 hb9;rw [<-hhd] at eor;obtain ⟨hst1,hst2,hst3,hst4⟩:=gd.start hE hhd;obtain ⟨g0,hg0⟩:∃ g0,g0=hd / top:=⟨_,rfl⟩;obtain ⟨r0,hr0⟩:∃ r0,r0=hd % top:=⟨_,rfl⟩;rw [<-hg0,<-hr0] at hst1;rw [<-hr0] at hst2;rw [<-hg0] at hst3;have eg0:(hd:Int) / (top:Int)=(g0:Int):=by rw [hg0];simp
   have er0:(hd:Int) % (top:Int)=(r0:Int):=by rw [hr0];simp
   have HS0:=ae hst1;have HHD:=ae hhd;have ej:((j+1:Nat):Int) - 1=(j:Int):=by omega
   have ei2:(j:Int)+(l2:Int)=(i2:Int):=by omega
   have ei1:(i2:Int) - 1=(i1:Int):=by omega
   have ei0:(i2:Int) - 2=(i0:Int):=by omega
   have ei3:(i2:Int)+1=(i3:Int):=by omega
   have e3j:i3 - j=p2:=by omega
   have hl3:i3<=p1:=by omega
   have hl2p:i2<p1:=by omega
   have hl1p:i1<p1:=by omega
   have hl0p:i0<p1:=by omega
   have hji3:j<=i3:=by omega
   have hjL:(j:Int)<(L:Int):=by omega
   have hjL2:j<L:=by omega
   have hj0:(0:Int)<=(j:Int):=by omega
   have htop0:((top:Int) == 0)=false:=by simp;omega
   have HJP:=ae hjp;rw [ej];clear hE hX hhd hg0 hr0 hst1 ej hml hm2 hm3 hp1 hp2 hi2 hi1 hi0 hi3 hjp hk0;go_wp2_with fail;go_quiet (fail)
   rename Nat=>nq1
   go_wp2_with fail;go_quiet (fail);go_upto_block 2 with fail
   obtain ⟨wd,hwd⟩:∃ wd:World,af wo wd/\wd=(wo.drewN nq1).drewN nq:=⟨_,((af.refl wo).drewN _).drewN _,rfl⟩;rw [<-hwd.2];have HKD:=ae hwd.1;have hcu':=hwd.1.cell hcu;clear hwd hca hcb hcu eg0 eor ha9 hb9;go_cut [16] (fun v16 wx=>∃ g:Nat,v16=.int .u64 g/\g<4294967296/\Hid (X / N<=g/\g<=X / N+1)/\Hid (af wo wx))
   case first =>
    go_wp2_with fail;go_loopg [16,17] g0 (fun kx s16 s17 wr=>∃ (g r:Nat),s16=.int .u64 g/\s17=.int .u64 r/\g<=kx/\g<18446744073709551616/\r<4294967296/\Hid (gd N X top hd g r)/\wd=wr)
    case atStart=>exact ⟨g0,r0,rfl,by rw [er0],Nat.le_refl _,hst3,hst2,HS0,rfl⟩
    case round =>
     obtain ⟨g,r,rfl,rfl,hgk,hg9,hr9,HEA,rfl⟩:=hrel;obtain ⟨r2,hr2⟩:∃ r2,r2=r+top:=⟨_,rfl⟩;obtain ⟨rs,hrs⟩:∃ rs,rs=r*4294967296+u2:=⟨_,rfl⟩;have er2:(r:Int)+(top:Int)=(r2:Int):=by omega
     have hr29:r2<8589934592:=by omega
     by_cases hc:4294967296<=g\/rs<g*nxt
     ·obtain ⟨g',hg',hea⟩:=gd.next HE.out HHD.out HEA.out (by rw [<-hrs];exact hc);rw [<-hr2] at hea;have HEB:=ae hea;have eg:(g:Int) - 1=(g':Int):=by omega
      have hg19:g'<18446744073709551616:=by omega
      have hgm:g'<g:=by omega
      have hg1:(1:Int)<=(g:Int):=by omega
      have hgp:g=g'+1:=hg';have HGP:=ae hgp;clear hgp;by_cases hbr:4294967296<=r2
      ·have HGD:=ae (gd.good HE.out HHD.out hea (.inr hbr));have hgw9:g'<4294967296:=HGD.out.1;have hbr':(4294967296:Int)<=(r2:Int):=by omega
       clear hea hg' hr2;by_cases hc1:4294967296<=g
       ·have hc1':(4294967296:Int)<=(g:Int):=by omega
        clear hc hrs;go_wp2_with fail;go_meet;exact ⟨g',rfl,hgw9,ae HGD.out.2,HKD⟩
       ·have hc1':(g:Int)<4294967296:=by omega
        have hc2:=hc.resolve_left hc1;obtain ⟨gn,hgn⟩:∃ gn,gn=g*nxt:=⟨_,rfl⟩;have egn:(g:Int)*(nxt:Int)=(gn:Int):=by rw [hgn];simp
        have hgn9:gn<18446744073709551616:=by
         have:g*nxt<=4294967295*4294967295:=Nat.mul_le_mul (by omega) (by omega)
         omega
        rw [<-hgn] at hc2;have hb2:decide (rs<gn)=true:=by simpa using hc2
        have hb1:decide ((4294967296:Int)<=(g:Int))=false:=by simp;omega
        have eors:=gO r u2 hr9 hu9;rw [<-hrs] at eors;have hc1'':g<4294967296:=by omega
        clear hc hrs hgn hc1 hc2;go_upto_block 3 with fail
        clear egn hgn9 hb1 hb2 eors hc1'' hc1';go_wp2_with fail;go_meet;exact ⟨g',rfl,hgw9,ae HGD.out.2,HKD⟩
      ·have hb3:decide ((4294967296:Int)<=(r2:Int))=false:=by simp;omega
       have hr2b:r2<4294967296:=by omega
       clear hea hg' hr2 hbr;by_cases hc1:4294967296<=g
       ·have hc1':(4294967296:Int)<=(g:Int):=by omega
        clear hc hrs;go_wp2_with fail;go_roundg g'
        case measure=>omega
        case rel=>exact ⟨g',r2,rfl,rfl,Nat.le_refl _,hg19,hr2b,HEB,rfl⟩
       ·have hc1':(g:Int)<4294967296:=by omega
        have hc2:=hc.resolve_left hc1;obtain ⟨gn,hgn⟩:∃ gn,gn=g*nxt:=⟨_,rfl⟩;have egn:(g:Int)*(nxt:Int)=(gn:Int):=by rw [hgn];simp
        have hgn9:gn<18446744073709551616:=by
         have:g*nxt<=4294967295*4294967295:=Nat.mul_le_mul (by omega) (by omega)
         omega
        rw [<-hgn] at hc2;have hb2:decide (rs<gn)=true:=by simpa using hc2
        have hb1:decide ((4294967296:Int)<=(g:Int))=false:=by simp;omega
        have eors:=gO r u2 hr9 hu9;rw [<-hrs] at eors;have hc1'':g<4294967296:=by omega
        clear hc hrs hgn hc1 hc2;go_upto_block 3 with fail
        clear egn hgn9 hb1 hb2 eors hc1'' hc1';go_wp2_with fail;go_roundg g'
        case measure=>omega
        case rel=>exact ⟨g',r2,rfl,rfl,Nat.le_refl _,hg19,hr2b,HEB,rfl⟩
     ·have hc1:g<4294967296:=by omega
      have hc1':(g:Int)<4294967296:=by omega
      have hc2:g*nxt<=rs:=by omega
      have HGD:=ae (gd.good HE.out HHD.out HEA.out (.inl ⟨hc1,by rw [<-hrs];exact hc2⟩));obtain ⟨gn,hgn⟩:∃ gn,gn=g*nxt:=⟨_,rfl⟩;have egn:(g:Int)*(nxt:Int)=(gn:Int):=by rw [hgn];simp
      have hgn9:gn<18446744073709551616:=by
       have:g*nxt<=4294967295*4294967295:=Nat.mul_le_mul (by omega) (by omega)
       omega
      rw [<-hgn] at hc2;have hb2:decide (rs<gn)=false:=by simp;omega
      have hb1:decide ((4294967296:Int)<=(g:Int))=false:=by simp;omega
      have eors:=gO r u2 hr9 hu9;rw [<-hrs] at eors;clear hc hrs hgn hr2;go_wp2_with fail;go_meet;exact ⟨g,rfl,hc1,ae HGD.out.2,HKD⟩
   case rest =>
    obtain ⟨g,rfl,hg9,HG,HKC⟩:=hcut;have HRUc:=ae (HRU.out.kept HKC.out);have HRVc:=ae (HRV.out.kept HKC.out);have HRQc:=ae (HRQ.out.kept HKC.out);clear hcu' HKD HS0 hst2 hst3 hst4 HRU HRV HRQ;go_wp2_with fail;refine (xU gu gv j l2 p2 (p1 - j) p2 g U V wc HRUc.out HRVc.out HGVU.out HD.out.wu HV.out.2.1 HP2.out (by rw [HD.out.lu];have:=HJP.out;have:=HL2.out;have:=HP2.out;omega) (by rw [HV.out.1,HM.out,HL2.out];omega) (by omega) (by omega) hg9 (by have:=HJP.out;have:=HL2.out;have:=HP2.out;omega)).mono ?_;rintro e w8 ⟨⟨b8,U8,rfl,hb8,hr8,hw8,hl8,hs8,he8⟩,ho8⟩;have hq3:p2=m+3:=by rw [HP2.out,HL2.out]
    have HP3:=ae hq3;rw [HP3.out,HL2.out,HSH.out.1,<-HXX.out] at he8;rw [HP3.out] at hs8;have hNM:N<4294967296^(m+3):=Nat.lt_trans HSH.out.2.2 (Nat.pow_lt_pow_right (by omega) (by omega));have HNM:=ae hNM;have hde:=tO HE.out.pos he8 (sx hw8 j (m+3)) (Nat.le_of_lt hNM) hb8 HG.out.1 HG.out.2;have HDE:=ae hde;have HR8:=ae hr8;have HW8:=ae (And.intro hw8 hl8);have HS8:=ae hs8;have HV8:=ae (ho8.row HRVc.out HGVU.out);have HQ8:=ae (ho8.row HRQc.out (fun h=>HGUQ.out h.symm));have HK8:=ae (ho8.toKept (HK.out.trans HKC.out) HGW.out);clear hr8 hw8 hl8 hs8 he8 ho8 hq3 hNM hde;have hjQ:j<Q.length:=by rw [HD.out.lq];exact hjL2
    rcases (by omega:b8=0\/b8=1) with rfl | rfl
    ·obtain ⟨hg1,hv8⟩:=HDE.out.1 rfl;have HNX:=ae (HD.out.step (by rw [HU.out.1,HP1.out,HL1.out]) hjL2 HJP.out HSH.out.2.2 hg9 HXX.out hg1 (by rw [HW8.out.2];exact HD.out.lu) HW8.out.1 HS8.out hv8);have f:=HQ8.out.free j;have hst:=bl HQ8.out j hjQ;have e5:IntKind.u32.wrap (g:Int)=(g:Int):=by rw [IntKind.wrap_u32];omega
     clear hg1 hv8 hb8 hjQ;go_wp2;go_roundg j
     case measure=>omega
     case rel=>exact ⟨j,U8,Q.set j g,rfl,by omega,Nat.le_refl _,ae (((aH.refl gq w8).store j _).row HR8.out HGUQ.out),ae (((aH.refl gq w8).store j _).row HV8.out HGVQ.out),ae (bi HQ8.out j g),HNX,ae (HK8.out.store HGQ.out j _)⟩
    ·obtain ⟨hg1,hv8⟩:=HDE.out.2 rfl;obtain ⟨g1,hg2⟩:∃ g1,g1=X / N:=⟨_,rfl⟩;rw [<-hg2] at hg1;have hg19:g1<4294967296:=by omega
     have eg1:(g:Int) - 1=(g1:Int):=by omega
     have hgge:(1:Int)<=(g:Int):=by omega
     have HG2:=ae hg2;have HV9:=ae hv8;clear hg1 hg2 hv8 hb8;go_wp2_with fail;refine (wh gu gv j l2 p2 (p1 - j) p2 U8 V w8 HR8.out HV8.out HGVU.out HW8.out.1 HV.out.2.1 HP2.out (by rw [HW8.out.2,HD.out.lu];have:=HJP.out;have:=HL2.out;have:=HP2.out;omega) (by rw [HV.out.1,HM.out,HL2.out];omega) (by omega) (by omega)).mono ?_;rintro e w9 ⟨⟨b9,U9,rfl,hr9,hw9,hl9,hs9,he9⟩,ho9⟩;rw [HP3.out,HL2.out,HSH.out.1] at he9;rw [HP3.out] at hs9;have hge:=wl he9 HV9.out (sx hw9 j (m+3)) (Nat.lt_trans (Nat.mod_lt _ HE.out.pos) HNM.out);have HNX:=ae (HD.out.step (by rw [HU.out.1,HP1.out,HL1.out]) hjL2 HJP.out HSH.out.2.2 hg19 HXX.out HG2.out (by rw [hl9,HW8.out.2];exact HD.out.lu) hw9 (fun i hi=>(hs9 i hi).trans (HS8.out i hi)) hge);have HR9:=ae hr9;have HVV9:=ae (ho9.row HV8.out HGVU.out);have HQ9:=ae (ho9.row HQ8.out (fun h=>HGUQ.out h.symm));have HK9:=ae (ho9.toKept HK8.out HGW.out);have f:=HQ9.out.free j;have hst:=bl HQ9.out j hjQ;have e5:IntKind.u32.wrap (g1:Int)=(g1:Int):=by rw [IntKind.wrap_u32];omega
     clear hr9 hw9 hl9 hs9 he9 ho9 hge hjQ;go_wp2;go_roundg j
     case measure=>omega
     case rel=>exact ⟨j,U9,Q.set j g1,rfl,by omega,Nat.le_refl _,ae (((aH.refl gq w9).store j _).row HR9.out HGUQ.out),ae (((aH.refl gq w9).store j _).row HVV9.out HGVQ.out),ae (bi HQ9.out j g1),HNX,ae (HK9.out.store HGQ.out j _)⟩
theorem cD {xs:List Nat} (h:Wd xs):(nw (nv xs)).length<=xs.length:=aL.2 (dl h)
theorem uA (va vb:Value) (xs ys:List Nat) (w:World) (ha:ah w va xs) (hb:ah w vb ys) (h0:nv ys≠0) (hlt:nv xs<nv ys) :
  Calls Tryz.prog 177 #[va,vb] w fun e w'=>(∃ v1 v2,e=.returned (.tuple #[v1,v2,.nilIface])/\ah w' v1 (nw (nv xs / nv ys))/\ah w' v2 (nw (nv xs % nv ys)))/\af w w':=by
 have HTA:=ae (fun W (hk:af w W)=>bh va xs W (ha.kept hk));have HTB:=ae (fun W (hk:af w W)=>bh vb ys W (hb.kept hk));have HLB:Hid ((nw (nv ys)).length≠0):=ae fun h=>h0 (cL.1 (List.eq_nil_of_length_eq_zero h))
 obtain ⟨a0,c0,rfl⟩:=ha.shape;obtain ⟨a1,c1,rfl⟩:=hb.shape;have HQ:Hid (nv xs / nv ys=0/\nv xs % nv ys=nv xs):=ae ⟨Nat.div_eq_of_lt hlt,Nat.mod_eq_of_lt hlt⟩;have HC:Hid (cU (nv xs) (nv ys)=-1):=ae (ff hlt);generalize nv xs=A at *;generalize nv ys=B at *;generalize xs.length=n0 at *;generalize ys.length=n1 at *;clear ha hb h0 hlt;go_enter Tryz.func177,Tryz.ntmps177;go_wp2_with fail;refine (HTA.out _ (af.refl _)).mono ?_;rintro e w1 ⟨⟨v1,rfl,hv1⟩,hk1⟩;go_wp2_with fail;refine (HTB.out _ hk1).mono ?_;rintro e w2 ⟨⟨v2,rfl,hv2⟩,hk2⟩;have H1:=ae (hv1.kept hk2);have H2:=ae hv2;have HK2:=ae (hk1.trans hk2);clear hv1 hv2 hk1 hk2;obtain ⟨a2,c2,rfl⟩:=H1.out.shape;obtain ⟨a3,c3,rfl⟩:=H2.out.shape;obtain ⟨l2,hl2⟩:∃ l2,l2=(nw B).length:=⟨_,rfl⟩;have hn2:((l2:Int) == 0)=false:=by have:=HLB.out;simp;omega
 have HH2:=ae hl2;rw [<-hl2];clear hl2;go_wp2_with fail;rw [HH2.out];refine (dM _ _ _ _ _ H1.out H2.out).mono ?_;rintro e w3 ⟨rfl,hk3⟩;rw [am,am,HC.out];have HK3:=ae hk3;clear hk3 hn2;obtain ⟨l1,hl1⟩:∃ l1,l1=(nw A).length:=⟨_,rfl⟩;have HH1:=ae hl1;rw [<-hl1];generalize (nw B).length=l3 at *;clear hl1;go_wp2;go_ret3;exact ⟨⟨_,_,rfl,by rw [HQ.out.1,bY];exact ah.nil _,by rw [HQ.out.2,HH1.out];exact H1.out.kept HK3.out⟩,HK2.out.trans HK3.out⟩
theorem wU (va vb:Value) (xs ys:List Nat) (w:World) (ha:ah w va xs) (hb:ah w vb ys) (h1:(nw (nv ys)).length=1) (hle:nv ys<=nv xs) :
  Calls Tryz.prog 177 #[va,vb] w fun e w'=>(∃ v1 v2,e=.returned (.tuple #[v1,v2,.nilIface])/\ah w' v1 (nw (nv xs / nv ys))/\ah w' v2 (nw (nv xs % nv ys)))/\af w w':=by
 have HTA:=ae (fun W (hk:af w W)=>bh va xs W (ha.kept hk));have HTB:=ae (fun W (hk:af w W)=>bh vb ys W (hb.kept hk));obtain ⟨a0,c0,rfl⟩:=ha.shape;obtain ⟨a1,c1,rfl⟩:=hb.shape;obtain ⟨d,hd⟩:∃ d,d=(nw (nv ys)).getD 0 0:=⟨_,rfl⟩
 have hdB:nv ys=d:=by
  have h2:=am (nv ys);rw [hd];cases h3:nw (nv ys) with
  | nil=>rw [h3] at h1;simp at h1
  | cons x l =>
   rw [h3] at h1 h2
   have:l=[]:=by cases l with
    | nil=>rfl
    | cons _ _=>simp at h1
   subst this;rw [<-h2];simp [nv]
 have hd9:d<4294967296:=by rw [hd];exact (dN _).getD _
 have hd0:0<d:=by
  rcases Nat.eq_zero_or_pos d with h | h
  ·rw [hdB,h,bY] at h1;simp at h1
  ·exact h
 obtain ⟨c,hc⟩:∃ c,c=cU (nv xs) (nv ys):=⟨_,rfl⟩
 have hcm:¬ c<0:=by
  rw [hc];rcases Nat.lt_or_ge (nv ys) (nv xs) with h | h
  ·rw [eJ h];omega
  ·rw [fe (by omega)];omega
 have HD:=ae hd;have HDB:=ae hdB;have HH1:=ae h1;have HC:=ae hc;generalize nv xs=A at *;generalize nv ys=B at *;generalize xs.length=n0 at *;generalize ys.length=n1 at *;obtain ⟨r,hr⟩:∃ r,r=A % d:=⟨_,rfl⟩;have hr9:r<4294967296:=by have:=Nat.mod_lt A hd0;omega
 have HR:=ae hr;clear ha hb hle hd hdB h1 hc hr;go_enter Tryz.func177,Tryz.ntmps177;go_wp2_with fail;refine (HTA.out _ (af.refl _)).mono ?_;rintro e w1 ⟨⟨v1,rfl,hv1⟩,hk1⟩;go_wp2_with fail;refine (HTB.out _ hk1).mono ?_;rintro e w2 ⟨⟨v2,rfl,hv2⟩,hk2⟩;have H1:=ae (hv1.kept hk2);have H2:=ae hv2;have HK2:=ae (hk1.trans hk2);clear hv1 hv2 hk1 hk2;obtain ⟨a2,c2,rfl⟩:=H1.out.shape;obtain ⟨a3,c3,hv3⟩:=H2.out.shape;rw [HH1.out] at hv3;subst hv3;obtain ⟨b3,o3,rfl,hc3⟩:=H2.out.get 0 (by rw [HH1.out];omega);rw [<-HD.out,Nat.add_zero] at hc3;have HC3:=ae hc3;clear hc3;go_wp2_with fail;refine (dM _ _ _ _ _ H1.out H2.out).mono ?_;rintro e w3 ⟨rfl,hk3⟩;rw [am,am,<-HC.out];have hc3:=hk3.cell HC3.out;have HK3:=ae hk3;have HSM:=ae (nE _ _ d _ (H1.out.kept hk3) hd0 hd9);clear hk3;generalize (nw A).length=l1 at *;go_wp2_with fail;refine HSM.out.mono ?_;rintro e w4 ⟨⟨v4,rfl,hv4⟩,hk4⟩;rw [am] at hv4⊢;rw [<-HR.out];have H4:=ae hv4;have HK4:=ae hk4;clear hv4 hk4 hc3 hcm;obtain ⟨a4,c4,rfl⟩:=H4.out.shape;generalize (nw (A / d)).length=l4 at *;go_wp2_with fail;refine (th r _ (by omega)).mono ?_;rintro e w5 ⟨⟨v5,rfl,hv5⟩,hk5⟩;have H5:=ae hv5;have HK5:=ae hk5;clear hv5 hk5;obtain ⟨a5,c5,rfl⟩:=H5.out.shape;go_wp2;go_ret3;exact ⟨⟨_,_,rfl,by rw [HDB.out];exact H4.out.kept HK5.out,by rw [HDB.out,<-HR.out];exact H5.out⟩,((HK2.out.trans HK3.out).trans HK4.out).trans HK5.out⟩
theorem lI (va vb:Value) (xs ys:List Nat) (w:World) (ha:ah w va xs) (hb:ah w vb ys) (hla:xs.length<=274877906944) (h0:nv ys≠0) :
  Calls Tryz.prog 177 #[va,vb] w fun e w'=>(∃ v1 v2,e=.returned (.tuple #[v1,v2,.nilIface])/\ah w' v1 (nw (nv xs / nv ys))/\ah w' v2 (nw (nv xs % nv ys)))/\af w w':=by
 rcases Nat.lt_or_ge (nv xs) (nv ys) with h | h
 ·exact uA va vb xs ys w ha hb h0 h
 ·have hn:(nw (nv ys)).length≠0:=fun h=>h0 (cL.1 (List.eq_nil_of_length_eq_zero h))
  by_cases h1:(nw (nv ys)).length=1
  ·exact wU va vb xs ys w ha hb h1 h
  ·exact uB va vb xs ys ((nw (nv ys)).length - 2) w ha hb hla (by omega) h
end Go.Proofs.YtofibjflkebkpaaGreatDoor
