import Derived.WalkKit
import Derived.WalkSpells
import Derived.WalkLawsBesides
import Derived.Deep.QuietTactic
import Derived.BigQuiet
import Derived.Lib.Hide
import Derived.Shelf.Abstract
import Derived.Deep.RegionWith
import Derived.Laws.AppendOwnNone
import Derived.Lib.AppendZerosOnto
import Derived.Lib.SliceRun
import Derived.Lib.SlicesCompact
import Derived.Shelf.SlSortCmp.NoneTotal
import Derived.Maps.OwnOps
import Derived.Maps.OwnSet
import Derived.Maps.Views
import Derived.Deep.MidRow
import Derived.Deep.RegionHeld3
import Derived.Deep.AppendLies
import Derived.Deep.RegionLaw
import Derived.IntWalk
import Derived.StillTailTactics
import Derived.RegionTactic
import Derived.BigRegion
import Derived.ChangeAlike
import Derived.Sort.LotD2
import Derived.Sort.LotA
import Derived.Shelf.SlSortCmp.PdqK
import Derived.Deep.DeepCutAuto
import Derived.Lib.ItoaNum
import Derived.Deep.LoopGhost
import Derived.ProofKit
import Derived.OpenShut
import Derived.SizedLaws
import Derived.Lib.SmallJoins
import Derived.Deep.Slices
import Derived.Deep.Fields
import Derived.Deep.Strs
import Derived.Carry
import Derived.Lib.BitFns
import Derived.Deep.CutBlock
import Derived.Test.YtofibjflkebkpaaGreatDoorDT7
import Derived.Test.YtofibjflkebkpaaGreatDoorDT4
import Derived.Test.YtofibjflkebkpaaGreatDoorDT3
set_option maxRecDepth 100000
set_option maxHeartbeats 16000000
namespace Go.Proofs.YtofibjflkebkpaaGreatDoor
open Go.RowKit
def dJ (s:Nat):List Nat:=(List.range 24).filter fun i=>s.testBit i
def mt (s:Nat):Int:=(Lib.bitLen s:Int) - 1
theorem dK {s i:Nat} (h:i∈dJ s):i<24/\s.testBit i=true:=by
 have:=List.mem_filter.1 h;exact ⟨by simpa using this.1,this.2⟩
theorem oT {x n:Nat} (h1:2^n<=x) (h2:x<2^(n+1)) (hn:n<60):Lib.bitLen x=n+1:=by
 have h64:x<2^64:=Nat.lt_of_lt_of_le h2 (Nat.pow_le_pow_right (by omega) (by omega));have h3:=Lib.bitLen_le x (n+1) (by omega) h2;have h4:=mD h64;have h5:n<Lib.bitLen x:=(Nat.pow_lt_pow_iff_right (by omega:1<2)).1 (Nat.lt_of_le_of_lt h1 h4);omega
theorem mV (l:List Nat) (x:Nat):∀ a:Int,(l++[x]).foldl (fun (_:Int) (i:Nat)=>(i:Int)) a=(x:Int):=by
 intro a;rw [List.foldl_append];rfl
theorem rF (s:Nat):∀ n,n<=24->((List.range n).filter fun i=>s.testBit i).foldl (fun (_:Int) (i:Nat)=>(i:Int)) (-1)=(Lib.bitLen (s % 2^n):Int) - 1:=by
 intro n;induction n with
 | zero=>intro _;simp [Nat.mod_one];rfl
 | succ n ih =>
  intro hn;have ih:=ih (by omega);rw [List.range_succ,List.filter_append,oV]
  have hb:s / 2^n % 2=if s.testBit n then 1 else 0:=by
   rw [Nat.testBit_eq_decide_div_mod_eq]
   have:s / 2^n % 2<2:=Nat.mod_lt _ (by omega)
   by_cases h:s / 2^n % 2=1
   ·simp [h]
   ·simp [h];omega
  cases ht:s.testBit n with
  | false =>
   rw [ht] at hb;simp only [List.filter_cons,ht,List.filter_nil,Bool.false_eq_true,if_false,List.append_nil] at hb⊢;rw [hb,Nat.zero_mul,Nat.add_zero];exact ih
  | true =>
   rw [ht] at hb;simp only [List.filter_cons,ht,List.filter_nil,if_true] at hb⊢;rw [mV,hb,Nat.one_mul];have h1:s % 2^n<2^n:=Nat.mod_lt _ (Nat.two_pow_pos n);rw [oT (n:=n) (by omega) (by rw [Nat.pow_succ];omega) (by omega)];omega
theorem ug {s:Nat} (hs:s<16777216):(dJ s).foldl (fun (_:Int) (i:Nat)=>(i:Int)) (-1)=mt s:=by
 have h:=rF s 24 (Nat.le_refl _);have e:(2:Nat)^24=16777216:=rfl;rw [e,Nat.mod_eq_of_lt hs] at h;exact h
theorem oU {s i:Nat} (hs:s<16777216) (hi:24<=i):s.testBit i=false:=by
 cases h:s.testBit i with
 | false=>rfl
 | true =>
  exfalso
  have h1:2^i<=s:=Nat.ge_two_pow_of_testBit h;have h2:2^24<=2^i:=Nat.pow_le_pow_right (by omega) hi;have e:(2:Nat)^24=16777216:=rfl;omega
theorem lw (c i:Nat) (hc:c<16777216) (w:World):Calls Tryz.prog 98 #[.int .i64 c,.int .i64 i] w fun e w'=>e=.returned (.bool (c.testBit i))/\w'=w:=by
 by_cases hi:i<24
 ·have e:=sY c i hc;have h1:(0:Int)<=(i:Int):=by omega
  have h2:(i:Int)<24:=by omega
  have E:=ae e;clear e hc;go_enter Tryz.func98,Tryz.ntmps98;go_wp2;go_ret;exact ⟨by rw [<-E.out];rfl,rfl⟩
 ·rw [oU hc (by omega)];have h1:(0:Int)<=(i:Int):=by omega
  have h2:¬ (i:Int)<24:=by omega
  have d2:decide ((i:Int)<24)=false:=decide_eq_false h2;clear hc hi;go_enter Tryz.func98,Tryz.ntmps98;go_wp2;go_ret;exact ⟨by first | rfl | simp,rfl⟩
theorem iL (c i:Nat) (hc:c<16777216) (w:World):Calls Tryz.prog 211 #[.int .i64 c,.int .i64 i] w fun e w'=>e=.returned (.bool (c.testBit i))/\w'=w:=by
 by_cases hi:i<24
 ·have e:=sY c i hc;have h1:(0:Int)<=(i:Int):=by omega
  have h2:(i:Int)<24:=by omega
  have E:=ae e;clear e hc;go_enter Tryz.func211,Tryz.ntmps211;go_wp2;go_ret;exact ⟨by rw [<-E.out];rfl,rfl⟩
 ·rw [oU hc (by omega)];have h1:(0:Int)<=(i:Int):=by omega
  have h2:¬ (i:Int)<24:=by omega
  have d2:decide ((i:Int)<24)=false:=decide_eq_false h2;clear hc hi;go_enter Tryz.func211,Tryz.ntmps211;go_wp2;go_ret;exact ⟨by first | rfl | simp,rfl⟩
theorem tY (s:Nat) (hs:s<16777216) (w:World):Calls Tryz.prog 95 #[.int .i64 s] w fun e w'=>e=.returned (.int .i64 (mt s))/\w'=w:=by
 have HC:Hid (∀ W,Calls Tryz.prog 135 #[.int .i64 s] W fun e w'=>e=.returned (.int .i64 s)/\W=w'):=ae fun W=>li (by unfold Mk;omega) W
 have ew:IntKind.u64.wrap (s:Int)=(s:Int):=by rw [IntKind.wrap_u64];omega
 obtain ⟨z,hz⟩:∃ z,z=Lib.bitLen s:=⟨_,rfl⟩;have hz9:z<=24:=by rw [hz];exact Lib.bitLen_le s 24 (by omega) (by rw [show (2:Nat)^24=16777216 from rfl];exact hs)
 have HL:Hid (∀ W,Calls Tryz.prog 132 #[.int .u64 (s:Int)] W fun e w'=>e=.returned (.int .i64 z)/\w'=W):=ae fun W=>by
  have h:=Tryz.bits_Len (s:Int) W (by omega) (by omega);rw [Int.toNat_natCast,<-hz] at h;exact h
 have hg:mt s=(z:Int) - 1:=by unfold mt;rw [hz]
 rw [hg];clear hz hg hs;go_enter Tryz.func95,Tryz.ntmps95;go_wp2_with (first | (go_at_call 135;refine (HC.out _).mono ?_;rintro e w2 ⟨rfl,rfl⟩) | (go_at_call 132;refine (HL.out _).mono ?_;rintro e w2 ⟨rfl,rfl⟩));go_ret;exact ⟨rfl,rfl⟩
theorem lk (s k:Nat):((List.range (k+1)).filter fun i=>s.testBit i)=((List.range k).filter fun i=>s.testBit i)++(if s.testBit k then [k] else []):=by
 rw [List.range_succ,List.filter_append];congr 1;cases h:s.testBit k <;> simp [h]
theorem gL (s n:Nat):((List.range n).filter fun i=>s.testBit i).length<=n:=by
 have:=List.length_filter_le (fun i=>s.testBit i) (List.range n);simpa using this
theorem mM (s:Nat) (hs:s<16777216) (w:World):Calls Tryz.prog 160 #[.int .i64 s] w fun e w'=>(∃ v,e=.returned v/\OwnInts w' w.heap.size v (aO (dJ s)))/\af w w':=by
 have HH:=ae (fun (i:Nat) W=>iL s i hs W);clear hs;go_enter Tryz.func160,Tryz.ntmps160;go_wp2_with fail;go_loopg [3,5] 24 (fun kx s3 s5 wr=>∃ k:Nat,k<=24/\s5=.int .i64 k/\24 - k<=kx/\Hid (OwnInts wr w.heap.size s3 (aO ((List.range k).filter fun i=>s.testBit i)))/\Hid (af w wr))
 case atStart=>exact ⟨0,Nat.zero_le _,rfl,by omega,ae (OwnInts.nil _ _),ae (af.refl _)⟩
 case round =>
  obtain ⟨k,hk,rfl,hkx,HO,HK⟩:=hrel;obtain ⟨a3,n3,c3,rfl⟩:=HO.out.ints.shape;by_cases hlt:k<24
  ·have hkn:(k:Int)<24:=by omega
   have HST:=ae (lk s k);have HLN:=ae (gL s k);cases hb:s.testBit k with
   | false =>
    have HC:Hid (∀ W,Calls Tryz.prog 211 #[.int .i64 s,.int .i64 k] W fun e w'=>e=.returned (.bool false)/\w'=W):=ae fun W=>by have h:=HH.out k W;rw [hb] at h;exact h
    rw [hb] at HST;clear hb;go_wp2_with (go_at_call 211;refine (HC.out _).mono ?_;rintro e w2 ⟨rfl,rfl⟩);go_roundg (24 - (k+1))
    case measure=>omega
    case rel=>exact ⟨k+1,by omega,by go_num,Nat.le_refl _,ae (by rw [HST.out];simpa using HO.out),HK⟩
   | true =>
    have HC:Hid (∀ W,Calls Tryz.prog 211 #[.int .i64 s,.int .i64 k] W fun e w'=>e=.returned (.bool true)/\w'=W):=ae fun W=>by have h:=HH.out k W;rw [hb] at h;exact h
    rw [hb] at HST;obtain ⟨L,hL⟩:∃ L,L=((List.range k).filter fun i=>s.testBit i):=⟨_,rfl⟩;rw [<-hL] at HO HLN HST;clear hb hL
    go_wp2_with (first
     | (go_at_call 211;refine (HC.out _).mono ?_;rintro e w2 ⟨rfl,rfl⟩)
     | (at_builtin;refine dp rfl _ _ rfl w.heap.size _ (aO L) rfl (HO.out.kept ((af.refl _).alloc _)) _ (k:Int) rfl (by simp) (by have:=HLN.out;unfold aO;rw [List.length_map];omega) (by have:=HK.out.size;simp;omega) ?_;intro v' w' h5 _ h6;have H5:=ae h5;have H6:=ae h6;clear h5 h6))
    obtain ⟨a5,n5,c5,rfl⟩:=H5.out.ints.shape;go_roundg (24 - (k+1))
    case measure=>omega
    case rel=>exact ⟨k+1,by omega,by go_num,Nat.le_refl _,ae (by rw [HST.out];simpa [aO] using H5.out),ae ((HK.out.alloc _).app H6.out)⟩
  ·have hke:k=24:=by omega
   have HE:Hid (OwnInts wr w.heap.size (.slice a3 n3 c3) (aO (dJ s))):=ae (by have h:=HO.out;rw [hke] at h;exact h);have hkn:¬ (k:Int)<24:=by omega
   clear hke;go_wp2;go_ret;exact ⟨⟨_,rfl,HE.out⟩,HK.out⟩
theorem tR (s:Nat) (hs:s<16777216) (w:World):Calls Tryz.prog 160 #[.int .i64 s] w fun e w'=>(∃ v,e=.returned v/\aq w' v (aO (dJ s)))/\af w w' :=
 (mM s hs w).mono fun _ _ ⟨⟨v,h1,h2⟩,h3⟩=>⟨⟨v,h1,h2.ints⟩,h3⟩
theorem pt (s:Nat) (hs:s<16777216) (w:World):Calls Tryz.prog 100 #[.int .i64 s] w fun e w'=>e=.returned (.int .i64 (mt s))/\af w w':=by
 have HE:=ae (tR s hs w);have HG:=ae (ug hs);obtain ⟨L,hL⟩:∃ L,L=dJ s:=⟨_,rfl⟩;rw [<-hL] at HE HG;obtain ⟨G,hG⟩:∃ G,G=mt s:=⟨_,rfl⟩;rw [<-hG] at HG⊢;clear hs hL hG;go_enter Tryz.func100,Tryz.ntmps100;go_wp2_with fail;refine HE.out.mono ?_;rintro e w2 ⟨⟨v2,rfl,hv2⟩,hk2⟩;obtain ⟨a,c,rfl,⟨hc,_⟩,hl,hx⟩:=hv2;obtain ⟨n,hn⟩:∃ n,n=(aO L).length:=⟨_,rfl⟩;have hnL:n=L.length:=by rw [hn];unfold aO;rw [List.length_map]
 rw [<-hn];have hn9:n<=140737488355328:=by omega
 have HX:=ae hx;have HN:=ae hn;have HNL:=ae hnL;have HK2:=ae hk2;clear hx hn hl hc hk2 hnL;go_wp2_with fail;go_loopg [3,9] n (fun kx s3 s9 wr=>∃ k:Nat,k<=n/\s9=.int .i64 k/\n - k<=kx/\s3=.int .i64 ((L.take k).foldl (fun (_:Int) (i:Nat)=>(i:Int)) (-1))/\w2=wr)
 case atStart=>exact ⟨0,Nat.zero_le _,rfl,by omega,rfl,rfl⟩
 case round =>
  obtain ⟨k,hk,rfl,hkx,rfl,rfl⟩:=hrel;by_cases hlt:k<n
  ·obtain ⟨b,o,rfl,hcell⟩:=HX.out k (by rw [<-HN.out];exact hlt);have hkL:k<L.length:=by have:=HNL.out;omega
   obtain ⟨y,hy⟩:∃ y,y=L[k]:=⟨_,rfl⟩;have e1:(aO L)[k]'(by rw [<-HN.out];exact hlt)=(y:Int):=by rw [hy];simp [aO]
   rw [e1] at hcell;have HST:Hid (((y:Nat):Int)=(L.take (k+1)).foldl (fun (_:Int) (i:Nat)=>(i:Int)) (-1)):=ae (by rw [List.take_succ_eq_append_getElem hkL,mV,hy]);have hkn:(k:Int)<(n:Int):=by omega
   generalize (L.take k).foldl (fun (_:Int) (i:Nat)=>(i:Int)) (-1)=z at *;clear e1 hy;go_wp2_with fail;go_roundg (n - (k+1))
   case measure=>omega
   case rel=>exact ⟨k+1,by omega,by go_num,Nat.le_refl _,by rw [HST.out],rfl⟩
  ·have HE2:Hid ((L.take k).foldl (fun (_:Int) (i:Nat)=>(i:Int)) (-1)=G):=ae (by rw [List.take_of_length_le (by have:=HNL.out;omega)];exact HG.out);have hkn:¬ (k:Int)<(n:Int):=by omega
   rw [HE2.out];go_wp2;go_ret;exact ⟨rfl,HK2.out⟩
theorem a_.store {w:World} {g:Nat} {xs:List Value} (h:a_ w g xs) (i:Nat) (u:Value):a_ (w.setCell ⟨g,i,none⟩ u) g (xs.set i u):=by
 obtain ⟨cur,e,h1,h2⟩:=h;refine ⟨cur.setIfInBounds i u,e,by simp [World.setCell,Array.getElem?_modify,h1],?_⟩;rw [Array.toList_setIfInBounds,h2]
def RatCell (w:World) (g:Nat) (r:Rw):Prop:=∃ a1 c1 a2 c2,ai w g 29 [.bool r.neg,.slice a1 r.num.length c1,.slice a2 r.den.length c2]/\a_ w g [.bool r.neg,.slice a1 r.num.length c1,.slice a2 r.den.length c2]/\ah w (.slice a1 r.num.length c1) r.num/\ah w (.slice a2 r.den.length c2) r.den
theorem RatCell.kept {w w':World} {g:Nat} {r:Rw} (h:RatCell w g r) (hk:af w w'):RatCell w' g r:=by
 obtain ⟨a1,c1,a2,c2,h1,h2,h3,h4⟩:=h;exact ⟨a1,c1,a2,c2,h1.kept hk,h2.kept hk,h3.kept hk,h4.kept hk⟩
theorem RatCell.made {w:World} {r:Rw} {a1 a2:Option Addr} {c1 c2:Nat} (h1:ah w (.slice a1 r.num.length c1) r.num) (h2:ah w (.slice a2 r.den.length c2) r.den) :
  RatCell (w.alloc (.cells #[.bool r.neg,.slice a1 r.num.length c1,.slice a2 r.den.length c2] 29)) w.heap.size r :=
 ⟨a1,c1,a2,c2,ai.made w #[.bool r.neg,.slice a1 r.num.length c1,.slice a2 r.den.length c2] 29,a_.made w #[.bool r.neg,.slice a1 r.num.length c1,.slice a2 r.den.length c2] 29,h1.kept ((af.refl _).alloc _),h2.kept ((af.refl _).alloc _)⟩
theorem RatCell.store {w:World} {g:Nat} {r r':Rw} {a1 a2:Option Addr} {c1 c2:Nat} (h:RatCell w g r) (h1:ah w (.slice a1 r'.num.length c1) r'.num) (h2:ah w (.slice a2 r'.den.length c2) r'.den) :
  RatCell (((w.setCell ⟨g,0,none⟩ (.bool r'.neg)).setCell ⟨g,1,none⟩ (.slice a1 r'.num.length c1)).setCell ⟨g,2,none⟩ (.slice a2 r'.den.length c2)) g r':=by
 obtain ⟨a3,c3,a4,c4,h3,h4,_,_⟩:=h;have hr:=((h3.store 0 (.bool r'.neg)).store 1 (.slice a1 r'.num.length c1)).store 2 (.slice a2 r'.den.length c2);have hf:=((h4.store 0 (.bool r'.neg)).store 1 (.slice a1 r'.num.length c1)).store 2 (.slice a2 r'.den.length c2);simp only [List.set_cons_zero,List.set_cons_succ] at hr hf;have hO:=(((aH.refl g w).store 0 (.bool r'.neg)).store 1 (.slice a1 r'.num.length c1)).store 2 (.slice a2 r'.den.length c2);exact ⟨a1,c1,a2,c2,hr,hf,h1.apart h4 (by simp) hO,h2.apart h4 (by simp) hO⟩
theorem RatCell.at {w:World} {g:Nat} {r:Rw} (h:RatCell w g r):∃ a1 c1 a2 c2,(w.cell? ⟨g,0,none⟩=some (.bool r.neg)/\w.cell? ⟨g,1,none⟩=some (.slice a1 r.num.length c1)/\w.cell? ⟨g,2,none⟩=some (.slice a2 r.den.length c2))/\(w.frozen? ⟨g,0,none⟩=false/\w.frozen? ⟨g,1,none⟩=false/\w.frozen? ⟨g,2,none⟩=false)/\g<w.heap.size/\RatAt w (.agg #[.bool r.neg,.slice a1 r.num.length c1,.slice a2 r.den.length c2]) r:=by
 obtain ⟨a1,c1,a2,c2,h1,h2,h3,h4⟩:=h;refine ⟨a1,c1,a2,c2,⟨?_,?_,?_⟩,⟨h1.free 0,h1.free 1,h1.free 2⟩,h1.lt,_,_,rfl,h3,h4⟩
 ·have:=h1.cell (i:=0) (by simp);simpa using this
 ·have:=h1.cell (i:=1) (by simp);simpa using this
 ·have:=h1.cell (i:=2) (by simp);simpa using this
def xq (s:Nat) (ps:List Rw):Nat->Rat
 | 0=>1
 | k+1=>if s.testBit k=true then xq s ps k*al (ps.getD k default) else xq s ps k
theorem RatsAt.ok {w:World} {v:Value} {ps:List Rw} (h:RatsAt w v ps):∀ r∈ps,r.Ok:=by
 obtain ⟨a,c,_,_,_,h4⟩:=h;intro r hr;obtain ⟨i,hi,rfl⟩:=List.getElem_of_mem hr;obtain ⟨_,_,_,_,_,_,h7,h8⟩:=h4 i hi;exact ⟨h7.wd,h8.wd⟩
def Bg (L:List Nat) (ps:List Rw) (j:Nat):Rat:=(L.take j).foldl (fun (q:Rat) (i:Nat)=>q*al (ps.getD i default)) 1
theorem aT.cell {w:World} {a:Option Addr} {c m:Nat} {ns:List Nat} (h:aT w (.slice a m c) ns) (i:Nat) (hi:i<ns.length):∃ b o,a=some ⟨b,o,none⟩/\w.cell? ⟨b,o+i,none⟩=some (.int .i64 (ns[i]:Nat)):=by
 obtain ⟨⟨a',c',h1,_,_,h3⟩,_⟩:=h;cases h1;obtain ⟨b,o,h4,h5⟩:=h3 i (by simpa using hi);exact ⟨b,o,h4,by simpa using h5⟩
theorem sT (a b:Nat):(a &&& b=a) ↔ subN a b=true:=by
 rw [bk];constructor
 ·intro h i hi;have h1:(a &&& b).testBit i=true:=by rw [h];exact hi
  simp at h1;exact h1.2
 ·intro h;apply Nat.eq_of_testBit_eq;intro i;simp only [Nat.testBit_and];cases ha:a.testBit i with
  | false=>simp
  | true=>simp [h i ha]
def partN (a b:Nat):Bool:=decide (a≠b)&&subN a b
theorem xf {a b:Nat} (ha:Mk a) (hb:Mk b) (w:World):Calls Tryz.prog 223 #[.int .i64 a,.int .i64 b] w fun e w'=>e=.returned (.bool (partN a b))/\w=w':=by
 have hand:bits .and .i64 (a:Int) (b:Int)=((a &&& b:Nat):Int):=cR a b (by unfold Mk at ha;omega) (by unfold Mk at hb;omega);clear ha hb;by_cases e:a=b
 ·have h1:partN a b=false:=by unfold partN;simp [e]
  rw [h1];have ee:((a:Int) == (b:Int))=true:=by simp;omega
  have ee2:((a:Int) != (b:Int))=false:=by simp;omega
  clear e h1;go_enter Tryz.func223,Tryz.ntmps223;go_wp2;go_ret;exact ⟨rfl,rfl⟩
 ·have h1:partN a b=subN a b:=by unfold partN;simp [e]
  rw [h1];have ee:((a:Int) == (b:Int))=false:=by simp;omega
  have ee2:((a:Int) != (b:Int))=true:=by simp;omega
  clear e h1;cases hs:subN a b with
  | true =>
   have h2:(((a &&& b:Nat):Int) == (a:Int))=true:=by have:=(sT a b).2 hs;simp;omega
   clear hs;generalize (a &&& b:Nat)=z at hand h2;go_enter Tryz.func223,Tryz.ntmps223;go_wp2;go_ret;exact ⟨rfl,rfl⟩
  | false =>
   have h2:(((a &&& b:Nat):Int) == (a:Int))=false:=by
    have:¬ (a &&& b=a):=fun h=>by rw [(sT a b).1 h] at hs;cases hs
    simp;omega
   clear hs;generalize (a &&& b:Nat)=z at hand h2;go_enter Tryz.func223,Tryz.ntmps223;go_wp2;go_ret;exact ⟨rfl,rfl⟩
theorem ue (ns:List Nat) (hs:ns.Pairwise eB) (k:Nat) (hk:k<ns.length):((ns.take k).foldl aN []).any (fun x=>partN x ns[k])=((ns.take k).foldl aN []).any (fun x=>subN x ns[k]):=by
 rw [Bool.eq_iff_iff,List.any_eq_true,List.any_eq_true]
 have hne:∀ x∈(ns.take k).foldl aN [],x≠ns[k]:=by
  intro x hx e;rcases jj _ _ _ hx with h | h
  ·cases h
  ·obtain ⟨i,hi,rfl⟩:=List.getElem_of_mem h;simp only [List.length_take] at hi;rw [List.getElem_take] at e;have:=List.pairwise_iff_getElem.1 hs i k (by omega) hk (by omega);rw [e] at this;exact dr _ this
 constructor
 ·rintro ⟨x,hx,h⟩;refine ⟨x,hx,?_⟩;unfold partN at h;simp at h;exact h.2
 ·rintro ⟨x,hx,h⟩;refine ⟨x,hx,?_⟩;unfold partN;simp [hne x hx,h]
theorem ui (ns:List Nat) (v:Value) (w:World) (hv:aT w v ns) (hl:ns.length<=8796093022208) :
  Calls Tryz.prog 159 #[v] w fun e w'=>(∃ v',e=.returned v'/\dm w' w.heap.size v' (bq ns))/\af w w':=by
 have HS:=ae (kg ns.length ns v w (Nat.le_refl _) hv hl);obtain ⟨a,c,rfl,hc,_⟩:=hv.shape;obtain ⟨ss,hss⟩:∃ ss,ss=aR ns:=⟨_,rfl⟩;have hps:ss.Pairwise eB:=by rw [hss];exact cE ns
 have hsl:ss.length<=ns.length:=by rw [hss];exact gM ns
 have hmin:bq ns=ss.foldl aN []:=by rw [hss];rfl
 have hmk:∀ n∈ss,Mk n:=by rw [hss];exact fun n hn=>hv.2 n ((cd ns n).1 hn)
 rw [<-hss] at HS;rw [hmin];have HM:=ae hmk;have HP:=ae hps;clear hss hmin hmk hps hv;go_enter Tryz.func159,Tryz.ntmps159;go_wp2_with fail;refine HS.out.mono ?_;rintro e w1 ⟨⟨v1,rfl,ho1⟩,hk1⟩;have HV:=ae ho1.sets;have HK1:=ae hk1;obtain ⟨b1,c1,rfl,hc1,_⟩:=ho1.sets.shape;obtain ⟨n,hn⟩:∃ n,n=ss.length:=⟨_,rfl⟩;rw [<-hn] at HV hc1 hsl⊢;have HN:=ae hn;clear ho1 hk1 hn HS;go_wp2_with fail;go_loopw [3,5,6,8,12,16,17,18] (fun vo _ _ _ i _ _ _ wr=>∃ (k:Nat),k<=n/\i=.int .i64 k/\OwnInts wr w1.heap.size vo (aO ((ss.take k).foldl aN []))/\af w1 wr) (fun _ _ _ _ i _ _ _ _=>n - (intOf i).toNat)
 case atStart=>exact ⟨0,Nat.zero_le _,rfl,OwnInts.nil _ _,af.refl _⟩
 case round =>
  obtain ⟨k,hk,rfl,hO,hKr⟩:=hrel;have HO:=ae hO;have HKr:=ae hKr;have hsz:=hKr.size;clear hO hKr;by_cases hlt:k<n
  ·have hkx:k<ss.length:=by have:=HN.out;omega
   obtain ⟨b,o,rfl,hcell0⟩:=HV.out.cell k hkx;have hcell:=HKr.out.cell hcell0;have hkp:=ue ss HP.out k hkx;have hms:=HM.out _ (List.getElem_mem hkx);have htk:(ss.take (k+1)).foldl aN []=aN ((ss.take k).foldl aN []) ss[k]:=by rw [List.take_succ_eq_append_getElem hkx,List.foldl_append];rfl
   have hma:∀ x∈(ss.take k).foldl aN [],Mk x:=fun x hx=>by
    rcases jj _ _ _ hx with h | h
    ·cases h
    ·exact HM.out x (List.mem_of_mem_take h)
   have hla:((ss.take k).foldl aN []).length<=k:=by
    have:=pF (ss.take k) [];simp at this;omega
   obtain ⟨s,hs⟩:∃ s,s=ss[k]:=⟨_,rfl⟩;rw [<-hs] at hcell hkp hms htk;obtain ⟨acc,hacc⟩:∃ x,x=(ss.take k).foldl aN []:=⟨_,rfl⟩;rw [<-hacc] at HO hkp htk hma hla;have HKP:=ae hkp;have HTK:=ae htk;have HMA:=ae hma;have HMS:=ae hms;have ho3:=OwnInts.ints HO.out;obtain ⟨ao,no,co,rfl⟩:=ho3.shape;have hal:no=acc.length:=by obtain ⟨_,_,h,_⟩:=ho3;cases h;simp
   subst hal;have HSO:Hid (aT wr (.slice ao acc.length co) acc):=ae ⟨ho3,HMA.out⟩;obtain ⟨m,hm⟩:∃ m,m=acc.length:=⟨_,rfl⟩;rw [<-hm] at HSO HO hla⊢;have HML:=ae hm;clear hcell0 hkp htk hma hms hs hacc ho3 hm;go_wp2_with fail;obtain ⟨wo,rfl⟩:∃ wo:World,wo=wr:=⟨_,rfl⟩;go_loop [6,8,18] (fun sm _ j=>∃ q:Nat,q<=m/\j=.int .i64 q/\sm=.bool (!((acc.take q).any fun x=>partN x s))) (fun _ _ j=>m - (intOf j).toNat)
   case atStart=>exact ⟨0,Nat.zero_le _,rfl,rfl⟩
   case round =>
    obtain ⟨q,hq,rfl,rfl⟩:=hrel;by_cases hqm:q<m
    ·have hqx:q<acc.length:=by have:=HML.out;omega
     obtain ⟨b2,o2,rfl,hcell2⟩:=HSO.out.cell q hqx;have hmx:=HMA.out _ (List.getElem_mem hqx)
     have hst:(acc.take (q+1)).any (fun x=>partN x s)=((acc.take q).any (fun x=>partN x s)||partN acc[q] s):=by
      rw [List.take_succ_eq_append_getElem hqx,List.any_append];simp
     obtain ⟨x,hx⟩:∃ x,x=acc[q]:=⟨_,rfl⟩;rw [<-hx] at hcell2 hmx hst;have HP2:Hid (∀ W,Calls Tryz.prog 223 #[.int .i64 x,.int .i64 s] W fun e w'=>e=.returned (.bool (partN x s))/\W=w'):=ae fun W=>xf hmx HMS.out W
     have HST:=ae hst;clear hx hmx hst;cases hb1:(acc.take q).any fun x=>partN x s with
     | true =>
      have HB1:=ae hb1;clear hb1;go_wp2_with (go_at_call 223;refine (HP2.out _).mono ?_;rintro e w' ⟨rfl,rfl⟩);go_round
      case rel=>exact ⟨q+1,by omega,by go_num,by rw [HST.out,HB1.out];rfl⟩
      case measure=>simp [intOf];omega
     | false =>
      have HB1:=ae hb1;clear hb1;go_wp2_with (go_at_call 223;refine (HP2.out _).mono ?_;rintro e w' ⟨rfl,rfl⟩);go_round
      case rel=>exact ⟨q+1,by omega,by go_num,by rw [HST.out,HB1.out];rfl⟩
      case measure=>simp [intOf];omega
    ·have hqe:acc.take q=acc:=List.take_of_length_le (by have:=HML.out;omega);rw [hqe,HKP.out];cases hb1:acc.any fun x=>subN x s with
     | true =>
      have HKN:Hid ((ss.take (k+1)).foldl aN []=acc):=ae (by rw [HTK.out,aN,if_pos hb1]);clear hb1 hqe;go_wp2;go_roundw
      case rel=>exact ⟨k+1,by omega,by go_num,by rw [HKN.out];exact HO.out,HKr.out⟩
      case measure=>simp [intOf];omega
     | false =>
      have HKN:Hid ((ss.take (k+1)).foldl aN []=acc++[s]):=ae (by rw [HTK.out,aN,if_neg (by rw [hb1];simp)]);clear hb1 hqe;go_wp2_with (at_builtin;refine dp rfl _ _ rfl w1.heap.size _ (aO acc) rfl (HO.out.kept ((af.refl _).alloc _)) _ (s:Int) rfl (by simp) (by simp;have:=HML.out;omega) (by simp;omega) ?_;intro v7 w7 hown7 _ hb7;have O7:=ae hown7;have HB7:=ae hb7;clear hown7 hb7);go_roundw
      case rel=>exact ⟨k+1,by omega,by go_num,by rw [HKN.out];simpa [aO] using O7.out,(HKr.out.alloc _).app HB7.out⟩
      case measure=>simp [intOf];omega
  ·have hfull:ss.take k=ss:=List.take_of_length_le (by have:=HN.out;omega);rw [hfull] at HO;clear hfull;go_wp2;go_ret
   exact ⟨⟨_,rfl,⟨HO.out.mono HK1.out.size,fun x hx=>by
    rcases jj _ _ _ hx with h | h
    ·cases h
    ·exact HM.out x h⟩⟩,HK1.out.trans HKr.out⟩
theorem uh (ns:List Nat) (v:Value) (w:World) (hv:aT w v ns) (hl:ns.length<=8796093022208) :
  Calls Tryz.prog 159 #[v] w fun e w'=>(∃ v',e=.returned v'/\dm w' 0 v' (bq ns))/\af w w' :=
 (ui ns v w hv hl).mono fun _ _ ⟨⟨v',h1,h2⟩,h3⟩=>⟨⟨v',h1,⟨h2.1.mono (Nat.zero_le _),h2.2⟩⟩,h3⟩
def z_ (xs:List Int):Bool:=xs.all fun x=>decide (0<=x/\x<=16777215)
def dh (xs:List Int):Nat:=if 1024<xs.length then 4 else if z_ xs=true then 0 else 3
def bz (xs:List Int):List Nat:=xs.map Int.toNat
def dG (xs:List Int):Nat:=if dh xs≠0 then dh xs else if bz xs≠aR (bz xs) then 13 else if bz xs≠bq (bz xs) then 2 else 0
theorem jp {xs:List Int}:z_ xs=true ↔ ∀ x∈xs,0<=x/\x<=16777215:=by
 unfold z_;rw [List.all_eq_true];exact ⟨fun h x hx=>of_decide_eq_true (h x hx),fun h x hx=>decide_eq_true (h x hx)⟩
theorem kR {xs:List Int} (h:z_ xs=true):xs=aO (bz xs)/\∀ n∈bz xs,Mk n:=by
 have h:=jp.1 h;refine ⟨?_,fun n hn=>?_⟩
 ·unfold aO bz;rw [List.map_map]
  have:xs.map ((fun (n:Nat)=>(n:Int)) ∘ Int.toNat)=xs.map id:=List.map_congr_left fun x hx=>by
   have:=h x hx;simp only [Function.comp,id];omega
  first | (rw [this,List.map_id]) | (rw [List.map_id] at this;exact this.symm)
 ·obtain ⟨x,hx,rfl⟩:=List.mem_map.1 hn;have:=h x hx;unfold Mk;omega
theorem rt {xs:List Int} (h:dh xs=0):xs.length<=1024/\z_ xs=true:=by
 unfold dh at h;split at h
 ·omega
 ·split at h
  ·exact ⟨by omega,by assumption⟩
  ·omega
theorem tS (xs:List Int):dh xs=0\/dh xs=3\/dh xs=4:=by unfold dh;split <;> first | (exact .inr (.inr rfl)) | (split <;> first | exact .inl rfl | exact .inr (.inl rfl))
theorem tj {a b:List Nat}:aO a=aO b ↔ a=b:=by
 unfold aO
 exact ⟨fun h=>by
  have:=congrArg (List.map Int.toNat) h;simpa [List.map_map,Function.comp_def] using this,fun h=>by rw [h]⟩
theorem mN (xs ys:List Int) (va vb:Value) (w:World) (ha:aq w va xs) (hb:aq w vb ys):Calls Tryz.prog 153 #[va,vb] w fun e w'=>e=.returned (.bool (decide (xs=ys)))/\af w w':=by
 obtain ⟨aa,ca,rfl,_,hla,hca⟩:=ha;obtain ⟨ab,cb,rfl,_,hlb,hcb⟩:=hb;by_cases hl:xs.length=ys.length
 ·by_cases h0:xs=[]
  ·subst h0;have h1:ys=[]:=List.eq_nil_of_length_eq_zero hl.symm;subst h1;exact (Go.Proofs.Tryz.slices_Equal_int_empty aa ab ca 0 cb w (by omega)).mono fun e w' ⟨h1,h2⟩=>⟨by rw [h1];simp,by subst h2;exact af.refl _⟩
  ·have hp:0<xs.length:=List.length_pos_iff.2 h0;obtain ⟨b1,o1,rfl,_⟩:=hca 0 hp;obtain ⟨b2,o2,rfl,_⟩:=hcb 0 (by omega);refine (Go.Proofs.Tryz.slices_Equal_int b1 o1 xs.length ca b2 o2 ys.length cb xs ys w (Nat.le_refl _) (Nat.le_refl _) (by omega) (by omega) ?_ ?_).mono fun e w' ⟨h1,q,h2⟩=>⟨by rw [h1,List.take_length,List.take_length,show (xs == ys)=decide (xs=ys) by rw [Bool.eq_iff_iff];simp],by subst h2;exact (af.refl _).drewN _⟩
   ·intro j hj;obtain ⟨b,o,h1,h2⟩:=hca j hj;cases h1;rw [h2];simp [hj]
   ·intro j hj;obtain ⟨b,o,h1,h2⟩:=hcb j hj;cases h1;rw [h2];simp [hj]
 ·refine (Go.Proofs.Tryz.slices_Equal_int_lens aa ab xs.length ca ys.length cb w hl).mono fun e w' ⟨h1,h2⟩=>⟨?_,by subst h2;exact af.refl _⟩
  rw [h1,decide_eq_false (fun h=>hl (by rw [h]))]
theorem uo (g:Nat) (va:Value) (xs:List Int) (w:World) (hc:w.cell? ⟨g,0,none⟩=some va) (hv:aq w va xs) :
  Calls Tryz.prog 152 #[.slice (some ⟨g,0,none⟩) 1 1] w fun e w'=>e=.returned (bI (dh xs))/\w=w':=by
 obtain ⟨a,c,rfl,_,hl,hx⟩:=hv;obtain ⟨m,hm⟩:∃ m,m=xs.length:=⟨_,rfl⟩;rw [<-hm] at hc;have hm9:m<=140737488355328:=by omega
 have HX:=ae hx;have HM:=ae hm;have HC:=ae hc;clear hx hm hl hc;go_enter Tryz.func152,Tryz.ntmps152;go_wp2;go_loopg [9] 1 (fun kx s9 wr=>∃ k:Nat,k<=1/\s9=.int .i64 k/\1 - k<=kx/\Hid (k=1->dh xs=0)/\w=wr)
 case atStart=>exact ⟨0,by omega,rfl,by omega,ae (fun h=>by omega),rfl⟩
 case round =>
  obtain ⟨k,hk,rfl,hkx,HE,rfl⟩:=hrel;by_cases hk1:k=1
  ·subst hk1;have HE0:=ae (HE.out rfl);go_wp2;go_ret;exact ⟨by rw [HE0.out];rfl,rfl⟩
  ·have hk0:k=0:=by omega
   subst hk0;have hcell:=HC.out;by_cases hlen:m<=1024
   ·have hl1:¬ (1024:Int)<(m:Int):=by omega
    go_wp2;go_loopg [19] m (fun kx s19 wq=>∃ q:Nat,q<=m/\s19=.int .i64 q/\m - q<=kx/\Hid (∀ x∈xs.take q,0<=x/\x<=16777215)/\w=wq)
    case atStart=>exact ⟨0,Nat.zero_le _,rfl,by omega,ae (by simp),rfl⟩
    case round =>
     obtain ⟨q,hq,rfl,hqx,HF,rfl⟩:=hrel;by_cases hqm:q<m
     ·have hqx:q<xs.length:=by have:=HM.out;omega
      obtain ⟨b2,o2,rfl,hcell2⟩:=HX.out q hqx;obtain ⟨s,hs⟩:∃ s,s=xs[q]:=⟨_,rfl⟩;rw [<-hs] at hcell2;have HS:=ae hs;have hqi:(q:Int)<(m:Int):=by omega
      cases hd:decide (0<=s/\s<=16777215) with
      | true =>
       have HVA:Hid (∀ W,Calls Tryz.prog 217 #[.int .i64 s] W fun e w'=>e=.returned (.bool true)/\W=w'):=ae fun W=>by have:=nK s W;rwa [hd] at this
       have HD:=ae (of_decide_eq_true hd);clear hd hs;go_wp2_with (go_at_call 217;refine (HVA.out _).mono ?_;rintro e w' ⟨rfl,rfl⟩);go_roundg (m - (q+1))
       case measure=>omega
       case rel=>exact ⟨q+1,by omega,by go_num,Nat.le_refl _,ae (fun y hy=>by
        rw [List.take_succ_eq_append_getElem hqx] at hy;rcases List.mem_append.1 hy with hy | hy
        ·exact HF.out y hy
        ·simp at hy;rw [hy,<-HS.out];exact HD.out),rfl⟩
      | false =>
       have HVA:Hid (∀ W,Calls Tryz.prog 217 #[.int .i64 s] W fun e w'=>e=.returned (.bool false)/\W=w'):=ae fun W=>by have:=nK s W;rwa [hd] at this
       have HD:=ae (of_decide_eq_false hd)
       have HER:Hid (dh xs=3):=ae (by
        unfold dh;rw [if_neg (by have:=HM.out;omega),if_neg];intro h;exact HD.out (jp.1 h s (by rw [HS.out];exact List.getElem_mem _)))
       clear hd hs;go_wp2_with (go_at_call 217;refine (HVA.out _).mono ?_;rintro e w' ⟨rfl,rfl⟩);go_ret;exact ⟨by rw [HER.out];rfl,rfl⟩
     ·have HE0:Hid (dh xs=0):=ae (by
       have hf:=HF.out;rw [List.take_of_length_le (by have:=HM.out;omega)] at hf;unfold dh;rw [if_neg (by have:=HM.out;omega),if_pos (jp.2 hf)])
      have hqi:¬ (q:Int)<(m:Int):=by omega
      go_wp2;go_roundg 0
      case measure=>omega
      case rel=>exact ⟨1,by omega,by go_num,by omega,ae (fun _=>HE0.out),rfl⟩
   ·have hl1:(1024:Int)<(m:Int):=by omega
    have HER:Hid (dh xs=4):=ae (by unfold dh;rw [if_pos (by have:=HM.out;omega)]);go_wp2;go_ret;exact ⟨by rw [HER.out];rfl,rfl⟩
theorem tW (l:List Nat):∀ out,(l.foldl aN out).Sublist (out++l):=by
 induction l with
 | nil=>intro out;simp
 | cons s l ih =>
  intro out;have h:=ih (aN out s);show (l.foldl aN (aN out s)).Sublist _;unfold aN at h⊢;split at h
  ·rename_i hk;rw [if_pos hk];exact h.trans ((List.Sublist.refl out).append (List.sublist_cons_self s l))
  ·rename_i hk;rw [if_neg hk];simpa using h
theorem pN {ns:List Nat} (h:ns=aR ns):(bq ns).length=ns.length ↔ ns=bq ns:=by
 constructor
 ·intro hl
  have hs:(bq ns).Sublist ns:=by
   unfold bq;rw [<-h];exact tW ns []
  exact (hs.eq_of_length hl).symm
 ·intro he;rw [<-he]
theorem rx (va:Value) (xs:List Int) (w:World) (hv:aq w va xs) :
  Calls Tryz.prog 94 #[va] w fun e w'=>e=.returned (bI (dG xs))/\af w w':=by
 have HL:Hid (Calls Tryz.prog 152 #[.slice (some ⟨w.heap.size,0,none⟩) 1 1] (w.alloc (.cells #[va] 22)) fun e w'=>e=.returned (bI (dh xs))/\af w w'):=ae
  ((uo w.heap.size va xs _ (by simp) (hv.kept ((af.refl _).alloc _))).mono fun _ _ ⟨h1,h2⟩=>⟨h1,by rw [<-h2];exact (af.refl _).alloc _⟩)
 have HV:=ae hv;obtain ⟨a,c,hva,_⟩:=id hv;subst hva;obtain ⟨m,hm⟩:∃ m,m=xs.length:=⟨_,rfl⟩;rw [<-hm] at HL HV⊢;have HM:=ae hm;clear hm hv;rcases Nat.eq_zero_or_pos (dh xs) with he | he
 ·obtain ⟨hl,hok⟩:=rt he;obtain ⟨hxs,hmk⟩:=kR hok;have hchk:dG xs=if bz xs≠aR (bz xs) then 13 else if bz xs≠bq (bz xs) then 2 else 0:=by unfold dG;rw [if_neg (by omega)]
  rw [hchk];obtain ⟨ns,hns⟩:∃ ns,ns=bz xs:=⟨_,rfl⟩;rw [<-hns] at hxs hmk⊢;have hlm:m=ns.length:=by rw [HM.out,hns];unfold bz;rw [List.length_map]
  have HVS:Hid (aT w (.slice a m c) ns):=ae ⟨by rw [<-hxs];exact HV.out,hmk⟩;have hnl:ns.length<=1024:=by rw [<-hlm,HM.out];exact hl
  have HE:=ae he;rw [he,dd] at HL
  have HS:Hid (∀ W,af w W->Calls Tryz.prog 154 #[.slice a m c] W fun e w'=>(∃ v',e=.returned v'/\aq w' v' (aO (aR ns)))/\af W w'):=ae fun W hk=>by
   refine (mh _ ns W hmk (HVS.out.kept hk).1 (by omega)).mono ?_;rintro e w' ⟨v',h1,h2,h3⟩;exact ⟨⟨v',h1,h2.ints⟩,h3⟩
  have HMN:Hid (∀ W,af w W->Calls Tryz.prog 155 #[.slice a m c] W fun e w'=>(∃ v',e=.returned v'/\aT w' v' (bq ns))/\af W w'):=ae fun W hk=>by
   refine (oe _ ns W (HVS.out.kept hk) (by omega)).mono ?_;rintro e w' ⟨v',h1,h2,h3⟩;exact ⟨⟨v',h1,h2.sets⟩,h3⟩
  have HLM:=ae hlm;clear hxs hmk hns hl hok he hchk hlm hnl;by_cases h1:ns=aR ns
  ·have HEQ:Hid (∀ W vb,af w W->aq W vb (aO (aR ns))->Calls Tryz.prog 153 #[.slice a m c,vb] W fun e w'=>e=.returned (.bool true)/\af W w'):=ae fun W vb hk hb=>by
    have h:=mN (aO ns) (aO (aR ns)) (.slice a m c) vb W (HVS.out.kept hk).1 hb
    rwa [decide_eq_true (by rw [<-h1])] at h
   rw [if_neg (fun h=>h h1)];have hiff:=pN h1;obtain ⟨z,hz⟩:∃ z,z=(bq ns).length:=⟨_,rfl⟩;have HZ:=ae hz;rw [<-hz,<-HLM.out] at hiff;by_cases h2:ns=bq ns
   ·rw [if_neg (fun h=>h h2)];have hzm:z=m:=hiff.2 h2;have hb:((z:Int) != (m:Int))=false:=by rw [hzm];simp
    clear hiff h1 h2 hz;go_enter Tryz.func94,Tryz.ntmps94;go_wp2_with fail;refine HL.out.mono ?_;rintro e w1 ⟨rfl,hk1⟩;have K1:=ae hk1;clear hk1
    go_wp2_with (first
     | (go_at_call 154;refine (HS.out _ K1.out).mono ?_;rintro e w2 ⟨⟨v2,rfl,hv2⟩,hk2⟩;have HV2:=ae hv2;have K2:=ae (K1.out.trans hk2);clear hv2 hk2)
     | (go_at_call 153;refine (HEQ.out _ _ K2.out HV2.out).mono ?_;rintro e w3 ⟨rfl,hk3⟩;have K3:=ae (K2.out.trans hk3);clear hk3)
     | (go_at_call 155;refine (HMN.out _ K3.out).mono ?_;rintro e w4 ⟨⟨v4,rfl,hv4⟩,hk4⟩;obtain ⟨a4,c4,rfl,_,_⟩:=hv4.shape;rw [<-HZ.out];have K4:=ae (K3.out.trans hk4);clear hk4 hv4))
    go_ret;exact ⟨rfl,K4.out⟩
   ·rw [if_pos h2];have hzm:z≠m:=fun h=>h2 (hiff.1 h)
    have hb:((z:Int) != (m:Int))=true:=by simp [bne];omega
    have hzi:¬ (z:Int)=(m:Int):=by omega
    clear hiff h1 h2 hz;go_enter Tryz.func94,Tryz.ntmps94;go_wp2_with fail;refine HL.out.mono ?_;rintro e w1 ⟨rfl,hk1⟩;have K1:=ae hk1;clear hk1
    go_wp2_with (first
     | (go_at_call 154;refine (HS.out _ K1.out).mono ?_;rintro e w2 ⟨⟨v2,rfl,hv2⟩,hk2⟩;have HV2:=ae hv2;have K2:=ae (K1.out.trans hk2);clear hv2 hk2)
     | (go_at_call 153;refine (HEQ.out _ _ K2.out HV2.out).mono ?_;rintro e w3 ⟨rfl,hk3⟩;have K3:=ae (K2.out.trans hk3);clear hk3)
     | (go_at_call 155;refine (HMN.out _ K3.out).mono ?_;rintro e w4 ⟨⟨v4,rfl,hv4⟩,hk4⟩;obtain ⟨a4,c4,rfl,_,_⟩:=hv4.shape;rw [<-HZ.out];have K4:=ae (K3.out.trans hk4);clear hk4 hv4))
    go_ret;exact ⟨rfl,K4.out⟩
  ·have HEQ:Hid (∀ W vb,af w W->aq W vb (aO (aR ns))->Calls Tryz.prog 153 #[.slice a m c,vb] W fun e w'=>e=.returned (.bool false)/\af W w'):=ae fun W vb hk hb=>by
    have h:=mN (aO ns) (aO (aR ns)) (.slice a m c) vb W (HVS.out.kept hk).1 hb
    rwa [decide_eq_false (fun h=>h1 (tj.1 h))] at h
   rw [if_pos h1];clear h1;go_enter Tryz.func94,Tryz.ntmps94;go_wp2_with fail;refine HL.out.mono ?_;rintro e w1 ⟨rfl,hk1⟩;have K1:=ae hk1;clear hk1
   go_wp2_with (first
    | (go_at_call 154;refine (HS.out _ K1.out).mono ?_;rintro e w2 ⟨⟨v2,rfl,hv2⟩,hk2⟩;have HV2:=ae hv2;have K2:=ae (K1.out.trans hk2);clear hv2 hk2)
    | (go_at_call 153;refine (HEQ.out _ _ K2.out HV2.out).mono ?_;rintro e w3 ⟨rfl,hk3⟩;have K3:=ae (K2.out.trans hk3);clear hk3))
   go_ret;exact ⟨rfl,K3.out⟩
 ·have hchk:dG xs=dh xs:=by unfold dG;rw [if_pos (by omega)]
  rw [hchk];obtain ⟨q,hq⟩:∃ q,q=dh xs:=⟨_,rfl⟩;rw [<-hq] at HL he⊢;have hqe:bI q=.iface 60 (.int .i64 q):=bJ (by omega);rw [hqe] at HL⊢;clear hchk hq hqe;go_enter Tryz.func94,Tryz.ntmps94;go_wp2_with fail;refine HL.out.mono ?_;rintro e w1 ⟨rfl,hk1⟩;go_wp2;go_ret;exact ⟨rfl,hk1⟩
theorem xB (va:Value) (xs:List Int) (w:World) (hv:aq w va xs):Calls Tryz.prog 157 #[va] w fun e w'=>e=.returned (.int .i64 (dh xs))/\w=w':=by
 obtain ⟨a,c,rfl,_,hl,hx⟩:=hv;obtain ⟨m,hm⟩:∃ m,m=xs.length:=⟨_,rfl⟩;rw [<-hm];have hm9:m<=140737488355328:=by omega
 have HX:=ae hx;have HM:=ae hm;clear hx hm hl;by_cases hlen:m<=1024
 ·have hl1:¬ (1024:Int)<(m:Int):=by omega
  go_enter Tryz.func157,Tryz.ntmps157;go_wp2;go_loopg [10] m (fun kx s19 wq=>∃ q:Nat,q<=m/\s19=.int .i64 q/\m - q<=kx/\Hid (∀ x∈xs.take q,0<=x/\x<=16777215)/\w=wq)
  case atStart=>exact ⟨0,Nat.zero_le _,rfl,by omega,ae (by simp),rfl⟩
  case round =>
   obtain ⟨q,hq,rfl,hqx,HF,rfl⟩:=hrel;by_cases hqm:q<m
   ·have hqx:q<xs.length:=by have:=HM.out;omega
    obtain ⟨b2,o2,rfl,hcell2⟩:=HX.out q hqx;obtain ⟨s,hs⟩:∃ s,s=xs[q]:=⟨_,rfl⟩;rw [<-hs] at hcell2;have HS:=ae hs;have hqi:(q:Int)<(m:Int):=by omega
    cases hd:decide (0<=s/\s<=16777215) with
    | true =>
     have HVA:Hid (∀ W,Calls Tryz.prog 222 #[.int .i64 s] W fun e w'=>e=.returned (.bool true)/\W=w'):=ae fun W=>by have:=md s W;rwa [hd] at this
     have HD:=ae (of_decide_eq_true hd);clear hd hs;go_wp2_with (go_at_call 222;refine (HVA.out _).mono ?_;rintro e w' ⟨rfl,rfl⟩);go_roundg (m - (q+1))
     case measure=>omega
     case rel=>exact ⟨q+1,by omega,by go_num,Nat.le_refl _,ae (fun y hy=>by
      rw [List.take_succ_eq_append_getElem hqx] at hy;rcases List.mem_append.1 hy with hy | hy
      ·exact HF.out y hy
      ·simp at hy;rw [hy,<-HS.out];exact HD.out),rfl⟩
    | false =>
     have HVA:Hid (∀ W,Calls Tryz.prog 222 #[.int .i64 s] W fun e w'=>e=.returned (.bool false)/\W=w'):=ae fun W=>by have:=md s W;rwa [hd] at this
     have HD:=ae (of_decide_eq_false hd)
     have HER:Hid (dh xs=3):=ae (by
      unfold dh;rw [if_neg (by have:=HM.out;omega),if_neg];intro h;exact HD.out (jp.1 h s (by rw [HS.out];exact List.getElem_mem _)))
     clear hd hs;go_wp2_with (go_at_call 222;refine (HVA.out _).mono ?_;rintro e w' ⟨rfl,rfl⟩);go_ret;exact ⟨by rw [HER.out];rfl,rfl⟩
   ·have HE0:Hid (dh xs=0):=ae (by
     have hf:=HF.out;rw [List.take_of_length_le (by have:=HM.out;omega)] at hf;unfold dh;rw [if_neg (by have:=HM.out;omega),if_pos (jp.2 hf)])
    have hqi:¬ (q:Int)<(m:Int):=by omega
    go_wp2;go_ret;exact ⟨by rw [HE0.out];rfl,rfl⟩
 ·have hl1:(1024:Int)<(m:Int):=by omega
  have HER:Hid (dh xs=4):=ae (by unfold dh;rw [if_pos (by have:=HM.out;omega)]);go_enter Tryz.func157,Tryz.ntmps157;go_wp2;go_ret;exact ⟨by rw [HER.out];rfl,rfl⟩
theorem ow (va:Value) (xs:List Int) (w:World) (hv:aq w va xs) :
  Calls Tryz.prog 99 #[va] w fun e w'=>e=.returned (.int .i64 (dG xs))/\af w w':=by
 have HL:Hid (Calls Tryz.prog 157 #[va] w fun e w'=>e=.returned (.int .i64 (dh xs))/\w=w'):=ae (xB va xs w hv);have HV:=ae hv;obtain ⟨a,c,hva,_⟩:=id hv;subst hva;obtain ⟨m,hm⟩:∃ m,m=xs.length:=⟨_,rfl⟩;rw [<-hm] at HL HV⊢;have HM:=ae hm;clear hm hv;rcases Nat.eq_zero_or_pos (dh xs) with he | he
 ·obtain ⟨hl,hok⟩:=rt he;obtain ⟨hxs,hmk⟩:=kR hok;have hchk:dG xs=if bz xs≠aR (bz xs) then 13 else if bz xs≠bq (bz xs) then 2 else 0:=by unfold dG;rw [if_neg (by omega)]
  rw [hchk];obtain ⟨ns,hns⟩:∃ ns,ns=bz xs:=⟨_,rfl⟩;rw [<-hns] at hxs hmk⊢;have hlm:m=ns.length:=by rw [HM.out,hns];unfold bz;rw [List.length_map]
  have HVS:Hid (aT w (.slice a m c) ns):=ae ⟨by rw [<-hxs];exact HV.out,hmk⟩;have hnl:ns.length<=1024:=by rw [<-hlm,HM.out];exact hl
  rw [he] at HL;have HL0:Hid (Calls Tryz.prog 157 #[.slice a m c] w fun e w'=>e=.returned (.int .i64 0)/\w=w'):=ae HL.out
  have HS:Hid (Calls Tryz.prog 107 #[.slice a m c] w fun e w'=>(∃ v',e=.returned v'/\aq w' v' (aO (aR ns)))/\af w w'):=ae (by
   refine (kg ns.length ns _ w (Nat.le_refl _) HVS.out (by omega)).mono ?_;rintro e w' ⟨⟨v',h1,h2⟩,h3⟩;exact ⟨⟨v',h1,h2.sets.1⟩,h3⟩)
  have HMN:Hid (∀ W,af w W->Calls Tryz.prog 159 #[.slice a m c] W fun e w'=>(∃ v',e=.returned v'/\aq w' v' (aO (bq ns)))/\af W w'):=ae fun W hk=>by
   refine (uh ns _ W (HVS.out.kept hk) (by omega)).mono ?_;rintro e w' ⟨⟨v',h1,h2⟩,h3⟩;exact ⟨⟨v',h1,h2.sets.1⟩,h3⟩
  have HIN:Hid (∀ W vb l b,decide (ns=l)=b->af w W->aq W vb (aO l)->Calls Tryz.prog 158 #[.slice a m c,vb] W fun e w'=>e=.returned (.bool b)/\af W w'):=ae fun W vb l b hb hk hv=>by
   have h:=yF (aO ns) (aO l) (.slice a m c) vb W (HVS.out.kept hk).1 hv;rw [show decide (aO ns=aO l)=b by rw [<-hb];exact decide_eq_decide.2 tj] at h;exact h
  clear hxs hmk hns hl hok he hchk hlm hnl HL;by_cases h1:ns=aR ns
  ·have D1:Hid (decide (ns=aR ns)=true):=ae (decide_eq_true h1);rw [if_neg (fun h=>h h1)];by_cases h2:ns=bq ns
   ·have D2:Hid (decide (ns=bq ns)=true):=ae (decide_eq_true h2);rw [if_neg (fun h=>h h2)];clear h1 h2;go_enter Tryz.func99,Tryz.ntmps99
    go_wp2_with (first
     | (go_at_call 157;refine HL0.out.mono ?_;rintro e w1 ⟨rfl,rfl⟩)
     | (go_at_call 107;refine HS.out.mono ?_;rintro e w2 ⟨⟨v2,rfl,hv2⟩,hk2⟩;have HV2:=ae hv2;have K2:=ae hk2;clear hv2 hk2)
     | (go_at_call 158;(with_reducible refine (HIN.out _ _ _ _ D2.out K4.out HV4.out).mono ?_);rintro e w5 ⟨rfl,hk5⟩;have K5:=ae (K4.out.trans hk5);clear hk5)
     | (go_at_call 158;(with_reducible refine (HIN.out _ _ _ _ D1.out K2.out HV2.out).mono ?_);rintro e w3 ⟨rfl,hk3⟩;have K3:=ae (K2.out.trans hk3);clear hk3)
     | (go_at_call 159;refine (HMN.out _ K3.out).mono ?_;rintro e w4 ⟨⟨v4,rfl,hv4⟩,hk4⟩;have HV4:=ae hv4;have K4:=ae (K3.out.trans hk4);clear hk4 hv4))
    go_ret;exact ⟨rfl,K5.out⟩
   ·have D2:Hid (decide (ns=bq ns)=false):=ae (decide_eq_false h2);rw [if_pos h2];clear h1 h2;go_enter Tryz.func99,Tryz.ntmps99
    go_wp2_with (first
     | (go_at_call 157;refine HL0.out.mono ?_;rintro e w1 ⟨rfl,rfl⟩)
     | (go_at_call 107;refine HS.out.mono ?_;rintro e w2 ⟨⟨v2,rfl,hv2⟩,hk2⟩;have HV2:=ae hv2;have K2:=ae hk2;clear hv2 hk2)
     | (go_at_call 158;(with_reducible refine (HIN.out _ _ _ _ D2.out K4.out HV4.out).mono ?_);rintro e w5 ⟨rfl,hk5⟩;have K5:=ae (K4.out.trans hk5);clear hk5)
     | (go_at_call 158;(with_reducible refine (HIN.out _ _ _ _ D1.out K2.out HV2.out).mono ?_);rintro e w3 ⟨rfl,hk3⟩;have K3:=ae (K2.out.trans hk3);clear hk3)
     | (go_at_call 159;refine (HMN.out _ K3.out).mono ?_;rintro e w4 ⟨⟨v4,rfl,hv4⟩,hk4⟩;have HV4:=ae hv4;have K4:=ae (K3.out.trans hk4);clear hk4 hv4))
    go_ret;exact ⟨rfl,K5.out⟩
  ·have D1:Hid (decide (ns=aR ns)=false):=ae (decide_eq_false h1);rw [if_pos h1];clear h1;go_enter Tryz.func99,Tryz.ntmps99
   go_wp2_with (first
    | (go_at_call 157;refine HL0.out.mono ?_;rintro e w1 ⟨rfl,rfl⟩)
    | (go_at_call 107;refine HS.out.mono ?_;rintro e w2 ⟨⟨v2,rfl,hv2⟩,hk2⟩;have HV2:=ae hv2;have K2:=ae hk2;clear hv2 hk2)
    | (go_at_call 158;(with_reducible refine (HIN.out _ _ _ _ D1.out K2.out HV2.out).mono ?_);rintro e w3 ⟨rfl,hk3⟩;have K3:=ae (K2.out.trans hk3);clear hk3))
   go_ret;exact ⟨rfl,K3.out⟩
 ·have hchk:dG xs=dh xs:=by unfold dG;rw [if_pos (by omega)]
  rw [hchk];obtain ⟨q,hq⟩:∃ q,q=dh xs:=⟨_,rfl⟩;rw [<-hq] at HL he⊢;have hq0:((q:Int) != 0)=true:=by simp [bne];omega
  have hq1:((q:Int) == 0)=false:=by simp;omega
  clear hchk hq he;go_enter Tryz.func99,Tryz.ntmps99;go_wp2_with fail;refine HL.out.mono ?_;rintro e w1 ⟨rfl,rfl⟩;go_wp2;go_ret;exact ⟨rfl,af.refl _⟩
def AG (ss:List Nat) (ps:List Rw):Nat->Rat
 | 0=>0
 | k+1=>AG ss ps k+xq (ss.getD k 0) ps ps.length
def Bd (xs ys:List Int) (ps:List Rw):Nat × Rat :=
 if dG xs≠0 then (dG xs,0) else if dG ys≠0 then (dG ys,0) else if (bz ys).any (fun s=>decide ((ps.length:Int)<=mt s))=true then (11,0) else if eS ps=true then (3,0) else (0,AG (bz ys) ps (bz ys).length)
theorem mm (xs:List Nat) (va vb:Value) (w:World) (ha:ah w va xs) (hb:ah w vb xs) :
  Calls Tryz.prog 55 #[va,vb] w fun e w'=>e=.returned (.bool true)/\af w w':=by
 have HA:=ae ha;have HB:=ae hb;have hl:=ha.len;obtain ⟨a0,c0,rfl⟩:=ha.shape;obtain ⟨a1,c1,rfl⟩:=hb.shape;obtain ⟨n,hn⟩:∃ n,n=xs.length:=⟨_,rfl⟩;rw [<-hn] at HA HB hl⊢;have HN:=ae hn;clear ha hb hn;go_enter Tryz.func55,Tryz.ntmps55;go_wp2;go_loopg [13] n (fun kx s13 wr=>∃ k:Nat,k<=n/\s13=.int .i64 k/\n - k<=kx/\Hid (af w wr))
 case atStart=>exact ⟨0,Nat.zero_le _,rfl,by omega,ae (af.refl _)⟩
 case round =>
  obtain ⟨k,hk,rfl,hkx,HK⟩:=hrel;by_cases hlt:k<n
  ·have hkl:k<xs.length:=by have:=HN.out;omega
   obtain ⟨b1,o1,rfl,h1⟩:=HA.out.get k hkl;obtain ⟨b2,o2,rfl,h2⟩:=HB.out.get k hkl;have c1':=HK.out.cell h1;have c2':=HK.out.cell h2;generalize xs.getD k 0=x at *;have hki:(k:Int)<(n:Int):=by omega
   have e1:((x:Int) == (x:Int))=true:=by simp
   have e2:((x:Int) != (x:Int))=false:=by simp
   clear h1 h2 hkl;go_wp2;go_quiet (fail);go_wp2;go_roundg (n - (k+1))
   case measure=>omega
   case rel=>exact ⟨k+1,by omega,by go_num,Nat.le_refl _,ae (HK.out.drewN _)⟩
  ·have hki:¬ (k:Int)<(n:Int):=by omega
   go_wp2;go_ret;exact ⟨rfl,HK.out⟩
theorem xr (va vb:Value) (r:Rw) (w:World) (ha:RatAt w va r) (hb:RatAt w vb r) :
  Calls Tryz.prog 18 #[va,vb] w fun e w'=>e=.returned (.bool true)/\af w w':=by
 obtain ⟨u1,u2,rfl,h1,h2⟩:=ha;obtain ⟨u3,u4,rfl,h3,h4⟩:=hb;have HW1:=ae (fun W (hk:af w W)=>mm r.num u1 u3 W (h1.kept hk) (h3.kept hk));have HW2:=ae (fun W (hk:af w W)=>mm r.den u2 u4 W (h2.kept hk) (h4.kept hk));obtain ⟨a1,c1,rfl⟩:=h1.shape;obtain ⟨a2,c2,rfl⟩:=h2.shape;obtain ⟨a3,c3,rfl⟩:=h3.shape;obtain ⟨a4,c4,rfl⟩:=h4.shape;generalize r.num.length=n1 at *;generalize r.den.length=n2 at *;generalize r.neg=neg at *;obtain ⟨w2,hw2⟩:∃ w2,w2=(w.alloc (.cells #[.bool neg,.slice a1 n1 c1,.slice a2 n2 c2] 29)).alloc (.cells #[.bool neg,.slice a3 n1 c3,.slice a4 n2 c4] 29):=⟨_,rfl⟩;have HK0:Hid (af w w2):=ae (by rw [hw2];exact ((af.refl w).alloc _).alloc _);have p:=(ai.made w #[.bool neg,.slice a1 n1 c1,.slice a2 n2 c2] 29).kept ((af.refl _).alloc (.cells #[.bool neg,.slice a3 n1 c3,.slice a4 n2 c4] 29));have q:=ai.made (w.alloc (.cells #[.bool neg,.slice a1 n1 c1,.slice a2 n2 c2] 29)) #[.bool neg,.slice a3 n1 c3,.slice a4 n2 c4] 29;rw [World.size_alloc] at q;rw [<-hw2] at p q;have p0:=p.cell (i:=0) (by simp);have p1:=p.cell (i:=1) (by simp);have p2:=p.cell (i:=2) (by simp);have q0:=q.cell (i:=0) (by simp);have q1:=q.cell (i:=1) (by simp);have q2:=q.cell (i:=2) (by simp);simp only [List.getElem_cons_succ,List.getElem_cons_zero] at p0 p1 p2 q0 q1 q2;have HW:=ae hw2;clear h1 h2 h3 h4 hw2 p q;go_enter Tryz.func18,Tryz.ntmps18
 go_wp2_with fail;rw [<-HW.out];refine (HW1.out _ HK0.out).mono ?_;rintro e w3 ⟨rfl,hk3⟩;have r2:=hk3.cell p2;have s2:=hk3.cell q2;have HK3:=ae (HK0.out.trans hk3);clear hk3;go_wp2_with fail;refine (HW2.out _ HK3.out).mono ?_;rintro e w4 ⟨rfl,hk4⟩;have HK4:=ae (HK3.out.trans hk4);clear hk4;go_wp2;go_ret;exact ⟨rfl,HK4.out⟩
def ar (r:Nat):List Nat:=(List.range 128).filter fun j=>r.testBit (24+j)
theorem aX {r j:Nat}:j∈ar r ↔ j<128/\r.testBit (24+j)=true:=by simp [ar]
theorem bj (r:Nat):(ar r).Pairwise (·<·):=List.Pairwise.filter _ List.pairwise_lt_range
theorem c_ (r:Nat):(ar r).length<=128:=by
 unfold ar;exact Nat.le_trans (List.length_filter_le ..) (by simp)
theorem jO {l r:List Nat} (hl:l.Pairwise (·<·)) (hr:r.Pairwise (·<·)) (h:∀ x,x∈l ↔ x∈r):l=r :=
 db (·<·) (fun a h=>Nat.lt_irrefl a h) (fun _ _ _ h k=>Nat.lt_trans h k) l r hl hr h
theorem rO (r a:Nat) (h:a<24):ar (r ||| 2^a)=ar r:=by
 refine jO (bj _) (bj _) fun j=>?_
 rw [aX,aX,bo]
 have:¬ a=24+j:=by omega
 simp [this]
theorem oh (r n:Nat) (h:n<128):ar (r ||| 2^(24+n))=(ar r).filter (fun x=>decide (x<n))++n :: (ar r).filter (fun x=>decide (n<x)):=by
 refine jO (bj _) ?_ fun j=>?_
 ·rw [List.pairwise_append];refine ⟨(bj r).filter _,?_,fun a ha b hb=>?_⟩
  ·rw [List.pairwise_cons];refine ⟨fun b hb=>?_,(bj r).filter _⟩;simpa using (List.mem_filter.1 hb).2
  ·have h1:a<n:=by simpa using (List.mem_filter.1 ha).2
   rcases List.mem_cons.1 hb with hb | hb
   ·omega
   ·have h2:n<b:=by simpa using (List.mem_filter.1 hb).2
    omega
 ·rw [aX,bo,List.mem_append,List.mem_cons,List.mem_filter,List.mem_filter,aX];simp only [Bool.or_eq_true,decide_eq_true_eq];constructor
  ·rintro ⟨h1,h2 | h2⟩
   ·by_cases e:j<n
    ·exact .inl ⟨⟨h1,h2⟩,e⟩
    ·by_cases e2:j=n
     ·exact .inr (.inl e2)
     ·exact .inr (.inr ⟨⟨h1,h2⟩,by omega⟩)
   ·exact .inr (.inl (by omega))
  ·rintro (⟨⟨h1,h2⟩,_⟩ | h1 | ⟨⟨h1,h2⟩,_⟩)
   ·exact ⟨h1,.inl h2⟩
   ·subst h1;exact ⟨h,.inr rfl⟩
   ·exact ⟨h1,.inl h2⟩
theorem og (r n:Nat) (hn:n<128) (hb:r.testBit (24+n)=true) (hmax:∀ j,r.testBit (24+j)=true->j<=n):ar r=ar (aD r (2^(24+n)))++[n]:=by
 refine jO (bj _) ?_ fun j=>?_
 ·rw [List.pairwise_append];refine ⟨bj _,by simp,fun a ha b hb2=>?_⟩;simp at hb2;subst hb2;have h:=aX.1 ha;rw [bN] at h;simp only [Bool.and_eq_true,Bool.not_eq_true',decide_eq_false_iff_not] at h;have:=hmax a h.2.1;omega
 ·rw [List.mem_append,aX,aX,bN];simp only [Bool.and_eq_true,Bool.not_eq_true',decide_eq_false_iff_not,List.mem_singleton];constructor
  ·rintro ⟨h1,h2⟩;by_cases e:j=n
   ·exact .inr e
   ·exact .inl ⟨h1,h2,by omega⟩
  ·rintro (⟨h1,h2,_⟩ | h1)
   ·exact ⟨h1,h2⟩
   ·subst h1;exact ⟨hn,hb⟩
theorem zP (r n:Nat):aZ (aD r (2^(24+n)))=aZ r:=Nat.eq_of_testBit_eq fun i=>by
 rw [bL,bL,bN];by_cases h:i<24
 ·have:¬ 24+n=i:=by omega
  simp [this]
 ·simp [h]
theorem vi {r:Nat} (hr:aB 152 r) (h:ar r=[]):gj r (-1):=⟨fun j hj=>(by
 have:j∈ar r:=aX.2 ⟨by have:=hr _ hj;omega,hj⟩
 rw [h] at this;cases this),.inl rfl⟩
theorem sG {r x:Nat} {l:List Nat} (hr:aB 152 r) (h:ar r=l++[x]):gj r (x:Int):=by
 refine ⟨fun j hj=>?_,.inr ⟨x,rfl,?_⟩⟩
 ·have hm:j∈ar r:=aX.2 ⟨by have:=hr _ hj;omega,hj⟩;have hs:=bj r;rw [h] at hm hs;rcases List.mem_append.1 hm with hm | hm
  ·have:=(List.pairwise_append.1 hs).2.2 j hm x (by simp);omega
  ·simp at hm;omega
 ·exact (aX.1 (show x∈ar r by rw [h];simp)).2
theorem zO (r n:Nat):aZ (r ||| 2^(24+n))=aZ r:=Nat.eq_of_testBit_eq fun i=>by
 rw [bL,bL,bo];by_cases h:i<24
 ·have:¬ 24+n=i:=by omega
  simp [this]
 ·simp [h]
def fj (la:List Nat) (k x:Nat):Nat:=if la[k]?=some x then k+1 else k
def eE (la lb:List Nat) (k:Nat):Nat:=lb.foldl (fj la) k
theorem sv:∀ (lb la:List Nat) (k:Nat),eE la lb k=k+eE (la.drop k) lb 0:=by
 intro lb;induction lb with
 | nil=>intro la k;simp [eE]
 | cons x lb ih =>
  intro la k;show eE la lb (fj la k x)=k+eE (la.drop k) lb (fj (la.drop k) 0 x);have e:(la.drop k)[0]?=la[k]?:=by rw [List.getElem?_drop];simp
  unfold fj;rw [e];by_cases h:la[k]?=some x
  ·rw [if_pos h,if_pos h,ih la (k+1),ih (la.drop k) (0+1),List.drop_drop];rw [show k+(0+1)=k+1 by omega];omega
  ·rw [if_neg h,if_neg h,ih la k]
theorem uY (lb:List Nat):eE [] lb 0=0:=by
 induction lb with
 | nil=>rfl
 | cons x lb ih=>show eE [] lb (fj [] 0 x)=0;rw [show fj [] 0 x=0 from rfl];exact ih
theorem uX:∀ (lb la:List Nat),la.Pairwise (·<·)->lb.Pairwise (·<·)->(eE la lb 0=la.length ↔ ∀ x∈la,x∈lb):=by
 intro lb;induction lb with
 | nil =>
  intro la _ _;cases la with
  | nil=>simp [eE]
  | cons a la =>
   constructor
   ·intro h;simp [eE] at h
   ·intro h;have:=h a (by simp);cases this
 | cons b lb ih =>
  intro la hla hlb;have hlb2:=(List.pairwise_cons.1 hlb);cases la with
  | nil=>simp [uY]
  | cons a la =>
   have hla2:=(List.pairwise_cons.1 hla);show eE (a :: la) lb (fj (a :: la) 0 b)=_ ↔ _;by_cases h:a=b
   ·subst h;rw [show fj (a :: la) 0 a=1 by simp [fj],sv,show (a :: la).drop 1=la from rfl,List.length_cons];have:=ih la hla2.2 hlb2.2;constructor
    ·intro e x hx;rcases List.mem_cons.1 hx with hx | hx
     ·subst hx;simp
     ·exact List.mem_cons_of_mem _ (this.1 (by omega) x hx)
    ·intro e
     have h2:=this.2 fun x hx=>by
      rcases List.mem_cons.1 (e x (List.mem_cons_of_mem _ hx)) with h3 | h3
      ·have:=hla2.1 x hx;omega
      ·exact h3
     omega
   ·rw [show fj (a :: la) 0 b=0 by simp [fj,h],ih (a :: la) hla hlb2.2];constructor
    ·intro e x hx;exact List.mem_cons_of_mem _ (e x hx)
    ·intro e;have ha:a∈lb:=(List.mem_cons.1 (e a (by simp))).resolve_left h;have hba:=hlb2.1 a ha;intro x hx;rcases List.mem_cons.1 (e x hx) with h3 | h3
     ·rcases List.mem_cons.1 hx with h4 | h4
      ·omega
      ·have:=hla2.1 x h4;omega
     ·exact h3
theorem xg {a:Nat} (b:Nat) (ha:aB 152 a):subN a b=(subN (aZ a) (aZ b)&&decide (eE (ar a) (ar b) 0=(ar a).length)):=by
 rw [Bool.eq_iff_iff,Bool.and_eq_true,decide_eq_true_eq,uX _ _ (bj a) (bj b),bk,bk];constructor
 ·intro h;refine ⟨fun i hi=>?_,fun x hx=>?_⟩
  ·rw [bL] at hi⊢;simp only [Bool.and_eq_true,decide_eq_true_eq] at hi⊢;exact ⟨hi.1,h i hi.2⟩
  ·rw [aX] at hx⊢;exact ⟨hx.1,h _ hx.2⟩
 ·rintro ⟨h1,h2⟩ i hi;by_cases c:i<24
  ·have:=h1 i (by rw [bL];simp [c,hi]);rw [bL] at this;simp only [Bool.and_eq_true,decide_eq_true_eq] at this;exact this.2
  ·have hlt:=ha i hi;have:=(aX.1 (h2 (i - 24) (aX.2 ⟨by omega,by rw [show 24+(i - 24)=i by omega];exact hi⟩))).2;rw [show 24+(i - 24)=i by omega] at this;exact this
def zq (L:List Nat) (i j:Nat):Bool:=decide (i≠j)&&(subN (L.getD j 0) (L.getD i 0)&&(!subN (L.getD i 0) (L.getD j 0)||decide (j<i)))
def jK (L:List Nat) (i:Nat):Bool:=(List.range L.length).all fun j=>!zq L i j
def cJ (L:List Nat) (m:Nat):List Nat:=((List.range m).filter (jK L)).map fun i=>L.getD i 0
def ke (L:List Nat):List Nat:=cJ L L.length
theorem mw (L:List Nat) (m:Nat):cJ L (m+1)=cJ L m++(if jK L m=true then [L.getD m 0] else []):=by
 unfold cJ;rw [List.range_succ,List.filter_append,List.map_append];cases h:jK L m <;> simp [h]
theorem oA (L:List Nat) (m:Nat):(cJ L m).length<=m:=by
 unfold cJ;rw [List.length_map];exact Nat.le_trans (List.length_filter_le ..) (by simp)
theorem mO {x:Nat}:∀ {L:List Nat},x∈L->∃ i,i<L.length/\L.getD i 0=x/\∀ j,j<i->L.getD j 0≠x:=by
 intro L;induction L with
 | nil=>intro h;cases h
 | cons a L ih =>
  intro h;by_cases e:a=x
  ·exact ⟨0,by simp,by simp [e],fun j hj=>by omega⟩
  ·obtain ⟨i,h1,h2,h3⟩:=ih ((List.mem_cons.1 h).resolve_left fun h=>e h.symm);refine ⟨i+1,by simpa using h1,by simpa using h2,fun j hj=>?_⟩;cases j with
   | zero=>simpa using e
   | succ j=>simpa using h3 j (by omega)
theorem pr {L:List Nat} {i:Nat} (h:i<L.length):L.getD i 0∈L:=by
 rw [List.getD_eq_getElem?_getD,List.getElem?_eq_getElem h];exact List.getElem_mem h
theorem wM {L:List Nat} {x:Nat} (h:x∈L):∃ i,i<L.length/\L.getD i 0=x:=let ⟨i,h1,h2,_⟩:=mO h;⟨i,h1,h2⟩
theorem iM (L:List Nat) (i:Nat):jK L i=true ↔ ∀ j,j<L.length->i≠j->subN (L.getD j 0) (L.getD i 0)=true->subN (L.getD i 0) (L.getD j 0)=true/\i<=j:=by
 unfold jK zq;rw [List.all_eq_true];simp only [List.mem_range,Bool.not_eq_true',Bool.and_eq_false_iff,Bool.or_eq_false_iff,decide_eq_false_iff_not,Decidable.not_not,Bool.not_eq_false'];constructor
 ·intro h j hj hne hs;rcases h j hj with h1 | h1 | h1
  ·exact absurd h1 hne
  ·rw [hs] at h1;cases h1
  ·exact ⟨h1.1,by omega⟩
 ·intro h j hj;by_cases hne:i=j
  ·exact .inl hne
  ·cases hs:subN (L.getD j 0) (L.getD i 0) with
   | false=>exact .inr (.inl rfl)
   | true =>
    have:=h j hj hne hs;exact .inr (.inr ⟨this.1,by omega⟩)
theorem qo (L:List Nat):(ke L).Perm (bq L):=by
 refine kC ?_ (m_ (dY L)) fun x=>?_
 ·unfold ke cJ List.Nodup;rw [List.pairwise_map];refine List.Pairwise.imp_of_mem (R:=(·<·)) (fun {a b} ha hb hab=>?_) (List.Pairwise.filter _ List.pairwise_lt_range);intro e;have ha2:=List.mem_filter.1 ha;have hb2:=List.mem_filter.1 hb;have hal:a<L.length:=by simpa using ha2.1
  have:=((iM L b).1 hb2.2 a hal (by omega) (by rw [e];exact cN _)).2;omega
 ·rw [ck];unfold ke cJ;rw [List.mem_map];constructor
  ·rintro ⟨i,hi,rfl⟩;have hi2:=List.mem_filter.1 hi;have hil:i<L.length:=by simpa using hi2.1
   refine ⟨pr hil,fun t ht hs=>?_⟩;obtain ⟨j,hj,rfl⟩:=wM ht;by_cases e:i=j
   ·rw [e]
   ·exact fL hs ((iM L i).1 hi2.2 j hj e hs).1
  ·rintro ⟨hx,hmin⟩;obtain ⟨i,h1,h2,h3⟩:=mO hx;refine ⟨i,List.mem_filter.2 ⟨by simpa using h1,(iM L i).2 fun j hj hne hs=>?_⟩,h2⟩;have e:=hmin _ (pr hj) (by rw [<-h2];exact hs);refine ⟨by rw [h2,e];exact cN x,?_⟩;apply Nat.le_of_not_lt;intro hlt;exact h3 j hlt e
def bM (V:Nat):List Int->Nat->Nat->Int->List Nat
 | [],k,r,_=>if k=0 then [r] else []
 | a :: l,k,r,room=>if k=0 then [r] else if l.length+1<k\/room<0 then [] else
   bM V l (k - 1) (aJ V r a) room++bM V l k r (room - (bM V l (k - 1) (aJ V r a) room).length)
theorem eW (V:Nat) (args:List Int) (r:Nat) (room:Int):bM V args 0 r room=[r]:=by
 cases args <;> unfold bM <;> rw [if_pos rfl]
theorem j' (V:Nat):∀ (args:List Int) (k r:Nat) (room:Int),k≠0->((bM V args k r room).length:Int)<=max (room+1) 0:=by
 intro args;induction args with
 | nil=>intro k r room h;unfold bM;rw [if_neg h];simp;omega
 | cons a l ih =>
  intro k r room h;unfold bM;rw [if_neg h];split
  ·simp;omega
  ·rename_i h2;rw [List.length_append];have h3:=ih k r (room - (bM V l (k - 1) (aJ V r a) room).length) h
   have h4:((bM V l (k - 1) (aJ V r a) room).length:Int)<=room+1:=by
    by_cases e:k - 1=0
    ·rw [e,eW];simp;omega
    ·have:=ih (k - 1) (aJ V r a) room e;omega
   omega
theorem i_ (V:Nat) (args:List Int) (r:Nat):ay V args 0 r=[r]:=by
 cases args <;> unfold ay <;> rw [if_pos rfl]
theorem se (V:Nat):∀ (args:List Int) (k r:Nat) (room:Int),0<=room ->
  (((ay V args k r).length:Int)<=room->bM V args k r room=ay V args k r)/\(room<(ay V args k r).length->room<(bM V args k r room).length):=by
 intro args;induction args with
 | nil=>intro k r room _;unfold bM ay;exact ⟨fun _=>rfl,fun h=>h⟩
 | cons a l ih =>
  intro k r room hr;by_cases hk:k=0
  ·subst hk;rw [eW,i_];exact ⟨fun _=>rfl,fun h=>h⟩
  ·by_cases hm:l.length+1<k
   ·rw [dI V (a :: l) k r (by simpa using hm)];unfold bM;rw [if_neg hk,if_pos (.inl hm)];exact ⟨fun _=>rfl,fun h=>h⟩
   ·have e1:bM V (a :: l) k r room=bM V l (k - 1) (aJ V r a) room++bM V l k r (room - (bM V l (k - 1) (aJ V r a) room).length):=by
     conv=>lhs;unfold bM
     rw [if_neg hk,if_neg (by omega)]
    have e2:ay V (a :: l) k r=ay V l (k - 1) (aJ V r a)++ay V l k r:=by
     conv=>lhs;unfold ay
     rw [if_neg hk]
    rw [e1,e2,List.length_append,List.length_append];obtain ⟨i1,i2⟩:=ih (k - 1) (aJ V r a) room hr;by_cases h1:((ay V l (k - 1) (aJ V r a)).length:Int)<=room
    ·rw [i1 h1];obtain ⟨j1,j2⟩:=ih k r (room - (ay V l (k - 1) (aJ V r a)).length) (by omega);exact ⟨fun h=>by rw [j1 (by omega)],fun h=>by have:=j2 (by omega);omega⟩
    ·have:=i2 (by omega);exact ⟨fun h=>by omega,fun h=>by omega⟩
theorem o_ (V:Nat):∀ (args:List Int) (r:Nat),ay V args args.length r=[args.foldl (aJ V) r]:=by
 intro args;induction args with
 | nil=>intro r;rfl
 | cons a l ih =>
  intro r;unfold ay;rw [if_neg (by simp),List.length_cons,Nat.add_sub_cancel,ih,dI V l (l.length+1) r (by omega)];rfl
theorem pb (V:Nat):∀ (args:List Int) (r:Nat),ay V args 1 r=args.map (aJ V r):=by
 intro args;induction args with
 | nil=>intro r;rfl
 | cons a l ih =>
  intro r;unfold ay;rw [if_neg (by omega),show 1 - 1=0 by omega,i_,ih];rfl
theorem ip (V:Nat) (x:Nd) (i:Nat) (L:List Nat) (k:Nat):(bp V x i (L.take k)).length<=(bp V x i L).length:=by
 have:bp V x i L=bp V x i (L.take k)++bp V x i (L.drop k):=by
  unfold bp;rw [<-List.flatMap_append,List.take_append_drop]
 rw [this,List.length_append];omega
section
open Go.RowKit
variable {Z:Option Nat}
theorem mT:(Tryz.prog.info? 131).map (fun i=>(i.zero,i.size,i.bytes))=some (some (.agg #[.int .i64 0,.slice none 0 0]),2,32):=by kernel_rfl
def bK (Z:Option Nat) (w:World) (u:Value) (r:Nat):Prop:=OwnInts w 0 u (aO (ar r))/\∀ g,u.ownBlock=some g->Z≠some g
theorem bK.kept {w w':World} {u:Value} {r:Nat} (h:bK Z w u r) (hk:af w w'):bK Z w' u r:=⟨OwnInts.kept h.1 hk,h.2⟩
theorem bK.shape {w:World} {u:Value} {r:Nat} (h:bK Z w u r):∃ a c,u=.slice a (ar r).length c:=by
 obtain ⟨a,c,h,_⟩:=OwnInts.ints h.1;exact ⟨a,c,by rw [h];simp [aO]⟩
theorem bK.get {w:World} {a:Option Addr} {n c:Nat} {r:Nat} (h:bK Z w (.slice a n c) r) (i:Nat) (hi:i<(ar r).length):∃ b o,a=some ⟨b,o,none⟩/\w.cell? ⟨b,o+i,none⟩=some (.int .i64 ((ar r)[i]:Nat)):=by
 obtain ⟨a',c',h1,_,_,h4⟩:=OwnInts.ints h.1;injection h1 with h1 h2 h3
 subst h1;obtain ⟨b,o,h5,h6⟩:=h4 i (by simpa [aO] using hi);exact ⟨b,o,h5,by simpa [aO] using h6⟩
def aw (Z:Option Nat) (w:World) (B:Nat) (v:Value) (L:List Nat):Prop :=
 ∃ cells:List Value,w.ownsRow B 131 2 v L.length cells/\(L.length<=20000/\∀ c∈L,aB 152 c) /\
  ∀ i (h:i<L.length),∃ u,cells[i*2]?=some (.int .i64 (aZ L[i]))/\cells[i*2+1]?=some u/\bK Z w u L[i]
theorem aw.kept {w w':World} {B:Nat} {v:Value} {L:List Nat} (h:aw Z w B v L) (hk:af w w'):aw Z w' B v L:=by
 obtain ⟨cells,h1,h2,h3⟩:=h;exact ⟨cells,fH h1 hk,h2,fun i hi=>let ⟨u,a,b,c⟩:=h3 i hi;⟨u,a,b,c.kept hk⟩⟩
theorem aw.mono {w:World} {B B':Nat} {v:Value} {L:List Nat} (h:aw Z w B v L) (hb:B'<=B):aw Z w B' v L:=by
 obtain ⟨cells,h1,h2,h3⟩:=h;exact ⟨cells,jr h1 hb,h2,h3⟩
theorem aw.nil (w:World) (B:Nat):aw Z w B (.slice none 0 0) []:=⟨[],World.ownsRow_nil _ _ _ _,⟨by simp,by simp⟩,fun i h=>by simp at h⟩
theorem aw.lt {w:World} {B:Nat} {v:Value} {L:List Nat} (h:aw Z w B v L):∀ c∈L,aB 152 c:=by obtain ⟨_,_,h,_⟩:=h;exact h.2
theorem aw.len {w:World} {B:Nat} {v:Value} {L:List Nat} (h:aw Z w B v L):L.length<=20000:=by obtain ⟨_,_,h,_⟩:=h;exact h.1
theorem aw.slice {w:World} {B:Nat} {v:Value} {L:List Nat} (h:aw Z w B v L):∃ a c,v=.slice a L.length c/\(a=none->c=0):=by
 obtain ⟨cells,⟨_,h⟩,_⟩:=h;rcases h with ⟨rfl,h0⟩ | ⟨g,cp,_,rfl,_⟩
 ·exact ⟨none,0,by rw [h0],fun _=>rfl⟩
 ·exact ⟨_,_,rfl,fun h=>by cases h⟩
theorem fM {w:World} {b o:Nat} {x u:Value} (h1:w.cell? ⟨b,o,none⟩=some x) (h2:w.cell? ⟨b,o+1,none⟩=some u):w.rangeAt b o [x,u]:=by
 intro j v hj
 match j,hj with
 | 0,hj=>simp at hj;subst hj;exact h1
 | 1,hj=>simp at hj;subst hj;exact h2
theorem aw.get {w:World} {B:Nat} {a:Option Addr} {n c:Nat} {L:List Nat} (h:aw Z w B (.slice a n c) L) (i:Nat) (hi:i<L.length) :
  ∃ b ua un uc,a=some ⟨b,0,none⟩/\un=(ar L[i]).length/\bK Z w (.slice ua un uc) L[i]/\w.rangeAt b (i*2) [.int .i64 (aZ L[i]),.slice ua un uc]:=by
 obtain ⟨cells,⟨h1,h2⟩,h3,h4⟩:=h;rcases h2 with ⟨_,h6⟩ | ⟨g,cap,cur,hv,h6,h7,h8,h9,h10,h11⟩
 ·omega
 ·injection hv with hv1 hv2 hv3
  obtain ⟨u,e0,e1,e2⟩:=h4 i hi;obtain ⟨ua,uc,rfl⟩:=e2.shape
  have hc:∀ j,j<L.length*2->w.cell? ⟨g,j,none⟩=cells[j]?:=by
   intro j hj;have e1:(cur.toList.take (L.length*2))[j]?=cells[j]?:=by rw [h11]
   rw [List.getElem?_take_of_lt hj] at e1;simp only [World.cell?,h7];simpa using e1
  exact ⟨g,ua,_,uc,hv1,rfl,e2,fM (by rw [hc _ (by omega)];exact e0) (by rw [hc _ (by omega)];exact e1)⟩
theorem yf {o:Oper} {a:Act} {K:Act->World->Prop} {Q:Exit->Act->World->Prop} {w:World} (s x:Operand)
  (ho:o.op=.call { callee:=.builtin .append,args:=#[s,x],argTypes:=#[127,127] }) (B:Nat) (v:Value) (L:List Nat) (hs:a.eval s=v) (hown:aw Z w B v L)
  (u:Value) (M:List Nat) (hx:a.eval x=u) (hu:aw Z w 0 u M) (hl:L.length+M.length<=20000) (hB:B<=w.heap.size)
  (h:∀ v' w',aw Z w' B v' (L++M)->Below B w w'->K (a.put o.dst v') w'):Oper.wp Tryz.prog o a w K Q:=by
 obtain ⟨i0,hi0,hz0,hz1,hz2⟩:=info_parts mT;have hown0:=hown;obtain ⟨cells,hown1,⟨hkl,hlt⟩,hcell⟩:=hown;obtain ⟨cs,⟨hu1,hu2⟩,⟨hul,hult⟩,huc⟩:=hu;rcases hu2 with ⟨rfl,hu3⟩ | ⟨g,cap,cur,rfl,h6,h7,h8,h9,h10,h11⟩
 ·have hM:M=[]:=List.eq_nil_of_length_eq_zero hu3;subst hM;have hrun:=run_append_owned_none (P:=Tryz.prog) (w:=w) B 127 o.type 131 i0 2 Tryz.underlying127 hi0 v L.length _ hown1;unfold Oper.wp;simp [execOp,ho,resolve,invoke,builtin,hs,hx,hrun,Result.andThen];exact h v w (by simpa using hown0) (Below.refl _ _)
 ·refine wp_append_own _ s x 127 ho B 131 i0 _ 2 32 Tryz.underlying127 hi0 hz0 hz1 hz2 rfl (by decide) v L.length cells hs hown1 ⟨g,0,none⟩ M.length cap cs hx hu1 ?_ ?_ (by unfold maxLen;omega) (by omega) hB ?_
  ·intro j y hj;have hj':j<M.length*2:=by rw [<-hu1];exact (List.getElem?_eq_some_iff.1 hj).1
   have e1:(cur.toList.take (M.length*2))[j]?=cs[j]?:=by rw [h11]
   rw [List.getElem?_take_of_lt hj',hj] at e1;rw [kW];simp only [World.cell?,h7,Nat.zero_add];simpa using e1
  ·intro y hy;obtain ⟨j,hj⟩:=List.getElem?_of_mem hy;have hj':j<M.length*2:=by rw [<-hu1];exact (List.getElem?_eq_some_iff.1 hj).1
   obtain ⟨u,e0,e1,e2⟩:=huc (j / 2) (by omega);obtain ⟨ua,uc,rfl⟩:=e2.shape;by_cases hp:j % 2=0
   ·rw [show j / 2*2=j by omega,hj] at e0;rw [Option.some.inj e0];simp [Value.oneCell']
   ·rw [show j / 2*2+1=j by omega,hj] at e1;rw [Option.some.inj e1];simp [Value.oneCell']
  ·intro v' w' h3 h4 _;have hg:∀ k,k<w.heap.size->some k≠v.ownBlock->w'.heap[k]?=w.heap[k]?:=fun k hk hne=>h4.block k hk hne
   refine h v' w' ⟨cells++cs,by rw [List.length_append];exact h3,⟨by simp;omega,fun c hc=>?_⟩,?_⟩ (aW h4 hown1 hB)
   ·rcases List.mem_append.1 hc with hc | hc
    ·exact hlt c hc
    ·exact hult c hc
   ·intro i hi;have hcl:cells.length=L.length*2:=hown1.1;by_cases hik:i<L.length
    ·obtain ⟨u,e0,e1,e2⟩:=hcell i hik;rw [List.getElem_append_left hik];refine ⟨u,?_,?_,⟨⟨js e2.1.1 hown1 (by decide) hg,e2.1.2⟩,e2.2⟩⟩
     ·rw [List.getElem?_append_left (by omega),e0]
     ·rw [List.getElem?_append_left (by omega),e1]
    ·rw [List.length_append] at hi;obtain ⟨u,e0,e1,e2⟩:=huc (i - L.length) (by omega);rw [List.getElem_append_right (by omega)];refine ⟨u,?_,?_,⟨⟨js e2.1.1 hown1 (by decide) hg,e2.1.2⟩,e2.2⟩⟩
     ·rw [List.getElem?_append_right (by omega),hcl,show i*2 - L.length*2=(i - L.length)*2 by omega,e0]
     ·rw [List.getElem?_append_right (by omega),hcl,show i*2+1 - L.length*2=(i - L.length)*2+1 by omega,e1]
theorem nP {ops:Array Oper} {rest:List Oper} {o:Oper} {a:Act} {Q:Exit->Act->World->Prop} {w:World} (hgd:o.guard=none) (s x:Operand)
  (ho:o.op=.call { callee:=.builtin .append,args:=#[s,x],argTypes:=#[127,127] }) (B:Nat) (v:Value) (L:List Nat) (hs:a.eval s=v) (hown:aw Z w B v L)
  (u:Value) (M:List Nat) (hx:a.eval x=u) (hu:aw Z w 0 u M) (hl:L.length+M.length<=20000) (hB:B<=w.heap.size)
  (h:∀ v' w',aw Z w' B v' (L++M)->Below B w w'->wpList Tryz.prog ops Q rest (a.put o.dst v') w'):wpList Tryz.prog ops Q (o :: rest) a w :=
 wpList_plain hgd fun _ hK=>yf s x ho B v L hs hown u M hx hu hl hB fun v' w' h1 h2=>hK _ _ (h v' w' h1 h2)
theorem qH {ops:Array Oper} {o:Oper} {a:Act} {K:Act->World->Prop} {Q:Exit->Act->World->Prop} {E:Prop} {w:World} (hgd:o.guard=none) (s x:Operand)
  (ho:o.op=.call { callee:=.builtin .append,args:=#[s,x],argTypes:=#[127,127] }) (B:Nat) (v:Value) (L:List Nat) (hs:a.eval s=v) (hown:aw Z w B v L)
  (u:Value) (M:List Nat) (hx:a.eval x=u) (hu:aw Z w 0 u M) (hl:L.length+M.length<=20000) (hB:B<=w.heap.size)
  (h:∀ v' w',aw Z w' B v' (L++M)->Below B w w'->K (a.put o.dst v') w'):if Region.wanted o (yielded ops a.tmps)=true then Oper.wp Tryz.prog o a w K Q else E:=by
 have hw:Region.wanted o (yielded ops a.tmps)=true:=by simp [Region.wanted,hgd]
 rw [if_pos hw];exact yf s x ho B v L hs hown u M hx hu hl hB h
theorem aw.one {w:World} {g B r:Nat} {u:Value} (h:w.heap[g]?=some (.cells #[.int .i64 (aZ r),u] 131 (0,0))) (hu:bK Z w u r) (hr:aB 152 r) (hB:B<=g):aw Z w B (.slice (some ⟨g,0,none⟩) 1 1) [r] :=
 ⟨[.int .i64 (aZ r),u],⟨rfl,.inr ⟨g,1,#[.int .i64 (aZ r),u],rfl,hB,h,Nat.le_refl _,by unfold maxLen;omega,rfl,rfl⟩⟩,⟨by simp,by simpa using hr⟩,fun i hi=>by
  have:i=0:=by simpa using hi
  subst this;exact ⟨u,rfl,rfl,hu⟩⟩
theorem nO {ops:Array Oper} {rest:List Oper} {o:Oper} {a:Act} {Q:Exit->Act->World->Prop} {w:World} (hgd:o.guard=none) (s x:Operand)
  (ho:o.op=.call { callee:=.builtin .append,args:=#[s,x],argTypes:=#[127,127] }) (B:Nat) (v:Value) (L:List Nat) (hs:a.eval s=v) (hown:aw Z w B v L)
  (g r:Nat) (u:Value) (hx:a.eval x=.slice (some ⟨g,0,none⟩) 1 1) (hc:w.rangeAt g 0 [.int .i64 (aZ r),u]) (hu:bK Z w u r) (hr:aB 152 r) (hl:L.length<20000) (hB:B<=w.heap.size)
  (h:∀ v' w',aw Z w' B v' (L++[r])->Below B w w'->wpList Tryz.prog ops Q rest (a.put o.dst v') w'):wpList Tryz.prog ops Q (o :: rest) a w:=by
 obtain ⟨i0,hi0,hz0,hz1,hz2⟩:=info_parts mT;obtain ⟨cells,hown1,⟨hkl,hlt⟩,hcell⟩:=hown;obtain ⟨sa,sc,rfl⟩:=hu.shape;refine wpList_append_own _ hgd s x 127 ho B 131 i0 _ 2 32 Tryz.underlying127 hi0 hz0 hz1 hz2 rfl (by decide) v L.length cells hs hown1 ⟨g,0,none⟩ 1 1 [.int .i64 (aZ r),.slice sa (ar r).length sc] hx rfl ?_ ?_ (by unfold maxLen;omega) (by omega) hB ?_
 ·intro j u hj;have:=hc j u hj;rw [kW];exact this
 ·intro u hu;simp at hu;rcases hu with rfl | rfl <;> rfl
 ·intro v' w' h3 h4 _;have hg:∀ k,k<w.heap.size->some k≠v.ownBlock->w'.heap[k]?=w.heap[k]?:=fun k hk hne=>h4.block k hk hne
  refine h v' w' ⟨cells++[.int .i64 (aZ r),.slice sa (ar r).length sc],by simpa using h3,⟨by simp;omega,fun c hc=>?_⟩,?_⟩ (aW h4 hown1 hB)
  ·rcases List.mem_append.1 hc with hc | hc
   ·exact hlt c hc
   ·simp at hc;subst hc;exact hr
  ·intro i hi;simp at hi;have hcl:cells.length=L.length*2:=hown1.1;by_cases hik:i<L.length
   ·obtain ⟨u,e0,e1,e2⟩:=hcell i hik;rw [List.getElem_append_left hik];refine ⟨u,?_,?_,⟨⟨js e2.1.1 hown1 (by decide) hg,e2.1.2⟩,e2.2⟩⟩
    ·rw [List.getElem?_append_left (by omega),e0]
    ·rw [List.getElem?_append_left (by omega),e1]
   ·have e:i=L.length:=by omega
    subst e;rw [List.getElem_append_right (Nat.le_refl _)];simp only [Nat.sub_self,List.getElem_cons_zero];refine ⟨.slice sa (ar r).length sc,?_,?_,⟨⟨js hu.1.1 hown1 (by decide) hg,hu.1.2⟩,hu.2⟩⟩
    ·rw [List.getElem?_append_right (by omega),hcl];simp
    ·rw [List.getElem?_append_right (by omega),hcl];simp
theorem bK.prefix {w:World} {a:Option Addr} {n c r q x:Nat} (h:bK Z w (.slice a n c) r) (he:ar r=ar q++[x]):bK Z w (.slice a (n - 1) c) q:=by
 obtain ⟨⟨⟨h1,h2⟩,h3⟩,hz⟩:=h;rw [he] at h2 h3;simp only [aO,List.map_append,List.length_append,List.map_cons,List.map_nil,List.length_cons,List.length_nil,List.length_map] at h2 h3;rcases h2 with ⟨_,h4⟩ | ⟨g,cap,cur,hv,h5,h6,h7,h8,h9,h10⟩
 ·omega
 ·injection hv with hv1 hv2 hv3
  refine ⟨⟨⟨by simp [aO],.inr ⟨g,cap,cur,?_,h5,h6,?_,h8,h9,?_⟩⟩,?_⟩,fun g hg=>hz g (by rw [hv1] at hg⊢;exact hg)⟩
  ·rw [hv1,hv2,hv3];simp [aO]
  ·simp [aO];omega
  ·simp only [aO,List.length_map,Nat.mul_one,List.map_map] at h10⊢;have e:=congrArg (fun l=>l.take (ar q).length) h10;simp only [List.take_take] at e;rw [Nat.min_eq_left (by omega)] at e;rw [e,List.take_append_of_le_length (by simp),List.take_of_length_le (by simp)]
  ·simp [aO];omega
end
section
open Go.RowKit
variable {Z:Option Nat}
theorem sw (la lb:List Nat) (j:Nat) (h:j<lb.length):eE la (lb.take (j+1)) 0=fj la (eE la (lb.take j) 0) lb[j]:=by
 unfold eE;rw [List.take_succ_eq_append_getElem h,List.foldl_append];rfl
theorem l_ {a b:Nat} (ha:aB 152 a) (ua ub:Value) (w:World) (hua:bK Z w ua a) (hub:bK Z w ub b) :
  Calls Tryz.prog 229 #[.agg #[.int .i64 (aZ a),ua],.agg #[.int .i64 (aZ b),ub]] w fun e w'=>e=.returned (.bool (subN a b))/\af w w':=by
 have he:=xg b ha;have hea:=fR a;have heb:=fR b;have hs:=tt (aZ a) (aZ b) (by omega) (by omega);obtain ⟨sa,ca,rfl⟩:=hua.shape;obtain ⟨sb,cb,rfl⟩:=hub.shape;have HGA:=ae (fun i hi=>hua.get i hi);have HGB:=ae (fun i hi=>hub.get i hi);have hla:=c_ a;have hlb:=c_ b;rw [he];clear he hua hub ha;generalize ar a=la at *;generalize ar b=lb at *;generalize subN (aZ a) (aZ b)=x1 at *;generalize aZ a=ea at *;generalize aZ b=eb at *;obtain ⟨na,hna⟩:∃ n,n=la.length:=⟨_,rfl⟩;obtain ⟨nb,hnb⟩:∃ n,n=lb.length:=⟨_,rfl⟩;rw [<-hna] at hla⊢;rw [<-hnb] at hlb⊢;have HNA:=ae hna;have HNB:=ae hnb;cases x1 with
 | false =>
  have b1:(bits .andNot .i64 (ea:Int) (eb:Int) != 0)=true:=by rw [bne,hs];rfl
  clear hs hna hnb;go_enter Tryz.func229,Tryz.ntmps229;go_wp2;go_ret;exact ⟨rfl,((af.refl _).alloc _).alloc _⟩
 | true =>
  have b1:(bits .andNot .i64 (ea:Int) (eb:Int) != 0)=false:=by rw [bne,hs];rfl
  clear hs hna hnb;go_enter Tryz.func229,Tryz.ntmps229;go_wp2;obtain ⟨L1,hL1⟩:∃ L:World,L=(w.alloc (.cells #[.int .i64 ea,.slice sa na ca] 131)).alloc (.cells #[.int .i64 eb,.slice sb nb cb] 131):=⟨_,rfl⟩;have HK1:Hid (af w L1):=ae (by rw [hL1];exact ((af.refl _).alloc _).alloc _);have c1:L1.cell? ⟨w.heap.size,1,none⟩=some (.slice sa na ca):=by rw [hL1];simp
  have HL1:=ae hL1;clear hL1;go_loopg [5,17] nb (fun kx s5 s17 wr=>∃ j k:Nat,s5=.int .i64 k/\s17=.int .i64 j/\j<=nb/\nb - j<=kx/\k<=na/\Hid (k=eE la (lb.take j) 0)/\Hid (af L1 wr))
  case atStart=>exact ⟨0,0,rfl,rfl,Nat.zero_le _,by omega,Nat.zero_le _,ae (by rw [List.take_zero];rfl),ae (by rw [HL1.out];exact af.refl _)⟩
  case round =>
   obtain ⟨j,k,rfl,rfl,hj,hjx,hk,HKS,HK⟩:=hrel;have d1:=HK.out.cell c1;by_cases hlt:j<nb
   ·have hjl:j<lb.length:=by have:=HNB.out;omega
    obtain ⟨bb,ob,rfl,hcb0⟩:=HGB.out j (by rw [<-HNB.out];exact hlt);have hcb:=(HK1.out.trans HK.out).cell hcb0;have hnx:=sw la lb j hjl;rw [<-HKS.out] at hnx;obtain ⟨y,hy⟩:∃ y,y=lb[j]:=⟨_,rfl⟩;rw [<-hy] at hcb hnx;have hjn:(j:Int)<(nb:Int):=by omega
    clear hcb0 hy;by_cases hkl:k<na
    ·have hkl':k<la.length:=by have:=HNA.out;omega
     obtain ⟨ba,oa,rfl,hca0⟩:=HGA.out k hkl';have hca:=(HK1.out.trans HK.out).cell hca0;unfold fj at hnx;rw [List.getElem?_eq_getElem hkl'] at hnx;obtain ⟨x,hx⟩:∃ x,x=la[k]:=⟨_,rfl⟩;rw [<-hx] at hca hnx;have hkn:(k:Int)<(na:Int):=by omega
     clear hca0 hx;by_cases hxy:x=y
     ·subst hxy;rw [if_pos rfl] at hnx;have HNX:=ae hnx;clear hnx;go_wp2;go_roundg (nb - (j+1))
      case measure=>omega
      case rel=>exact ⟨j+1,k+1,by go_num,by go_num,by omega,Nat.le_refl _,by omega,ae HNX.out.symm,HK⟩
     ·rw [if_neg (by simpa using hxy)] at hnx;have b2:((x:Int) == (y:Int))=false:=by simp;omega
      have HNX:=ae hnx;clear hnx hxy;go_wp2;go_roundg (nb - (j+1))
      case measure=>omega
      case rel=>exact ⟨j+1,k,rfl,by go_num,by omega,Nat.le_refl _,by omega,ae HNX.out.symm,HK⟩
    ·have hke:k=na:=by omega
     unfold fj at hnx;rw [List.getElem?_eq_none (by have:=HNA.out;omega),if_neg (by simp)] at hnx;have HNX:=ae hnx;have hkn:¬ (k:Int)<(na:Int):=by omega
     clear hnx hke;go_wp2;go_roundg (nb - (j+1))
     case measure=>omega
     case rel=>exact ⟨j+1,k,rfl,by go_num,by omega,Nat.le_refl _,by omega,ae HNX.out.symm,HK⟩
   ·have HF:Hid (k=eE la lb 0):=ae (by have h:=HKS.out;rw [show j=nb by omega,HNB.out,List.take_length] at h;exact h);have hjn:¬ (j:Int)<(nb:Int):=by omega
    go_wp2;go_ret;refine ⟨?_,HK1.out.trans HK.out⟩;rw [<-HF.out];show Ending.returned (Value.bool ((k:Int) == (na:Int)))=_;congr 2;rw [Bool.eq_iff_iff];simp;omega
theorem mB (B:Nat) (v:Value) (L:List Nat) (w:World) (hv:aw Z w B v L):Calls Tryz.prog 167 #[v] w fun e w'=>(∃ r:Int,e=.returned (.int .i64 r)/\fx L r)/\af w w':=by
 have HV:=ae hv;have hl9:=hv.len;obtain ⟨sa,sc,rfl,_⟩:=hv.slice;obtain ⟨n,hn⟩:∃ n,n=L.length:=⟨_,rfl⟩;rw [<-hn] at HV hl9⊢;have HN:=ae hn;clear hn hv;go_enter Tryz.func167,Tryz.ntmps167;go_wp2;go_loopg [3,8] n (fun kx s3 s8 wr=>∃ (k:Nat) (r:Int),s3=.int .i64 r/\s8=.int .i64 k/\k<=n/\n - k<=kx/\-1<=r/\r<=1000/\Hid (fx (L.take k) r)/\Hid (af w wr))
 case atStart=>exact ⟨0,-1,rfl,rfl,Nat.zero_le _,by omega,by omega,by omega,ae fx.nil,ae (af.refl _)⟩
 case round =>
  obtain ⟨k,r,rfl,rfl,hk,hkx,hr0,hr9,HG,HK⟩:=hrel;by_cases hlt:k<n
  ·have hkl:k<L.length:=by have:=HN.out;omega
   obtain ⟨b,ua,un,uc,rfl,hun,hnd,hrg⟩:=(HV.out.kept HK.out).get k hkl;have hc152:aB 152 L[k]:=HV.out.lt _ (List.getElem_mem _)
   have HS:Hid (∀ s,gj L[k] s->fx (L.take (k+1)) (max r s)):=ae fun s hs=>by
    rw [List.take_succ_eq_append_getElem hkl];exact HG.out.snoc hs
   have HRG:=ae hrg;have hkn:(k:Int)<(n:Int):=by omega
   have hul:=c_ L[k];by_cases hz:ar L[k]=[]
   ·have hu0:un=0:=by rw [hun,hz];rfl
    subst hu0;have HF:Hid (fx (L.take (k+1)) r):=ae (by have h:=HS.out _ (vi hc152 hz);rw [show max r (-1)=r by omega] at h;exact h);clear hz hun hnd hrg HS hul;generalize aZ L[k]=z0 at *;go_wp2_with (with_reducible refine wpList_load_mid rfl 131 _ rfl b (k*2) rfl _ _ HRG.out Tryz.underlying131 rfl (by kernel_rfl) ?_);go_roundg (n - (k+1))
    case measure=>omega
    case rel=>exact ⟨k+1,r,rfl,by go_num,by omega,Nat.le_refl _,hr0,hr9,HF,ae (HK.out.alloc _)⟩
   ·obtain ⟨l,x,hlx⟩:∃ l x,ar L[k]=l++[x]:=⟨_,_,(List.dropLast_concat_getLast hz).symm⟩;have hu1:un=l.length+1:=by rw [hun,hlx];simp
    have hxm:x∈ar L[k]:=by rw [hlx];simp
    have hx128:=(aX.1 hxm).1;obtain ⟨bu,ou,rfl,hcu⟩:=hnd.get l.length (by rw [hlx];simp);have hgx:(ar L[k])[l.length]'(by rw [hlx];simp)=x:=by simp [hlx]
    rw [hgx] at hcu;obtain ⟨m,hm⟩:∃ m,m=l.length:=⟨_,rfl⟩;rw [<-hm] at hcu hu1;have hm9:m<=128:=by rw [hlx] at hul;simp at hul;omega
    have HF:Hid (fx (L.take (k+1)) (max r x)):=ae (HS.out _ (sG hc152 hlx));have q1:(un:Int) - 1=(m:Int):=by omega
    have q2:(0:Int)<(un:Int):=by omega
    have hcu2:=((af.refl wr).alloc (.cells #[.int .i64 (aZ L[k]),.slice (some ⟨bu,ou,none⟩) un uc] 131)).cell hcu;clear hz hun hnd hrg HS hul hlx hxm hgx hm hcu hu1;generalize aZ L[k]=z0 at *;go_wp2_with (with_reducible refine wpList_load_mid rfl 131 _ rfl b (k*2) rfl _ _ HRG.out Tryz.underlying131 rfl (by kernel_rfl) ?_);go_roundg (n - (k+1))
    case measure=>omega
    case rel=>exact ⟨k+1,max r x,by go_num,by go_num,by omega,Nat.le_refl _,by omega,by omega,HF,ae (HK.out.alloc _)⟩
  ·have hke:k=n:=by omega
   have HF:Hid (fx L r):=ae (by have h:=HG.out;rw [hke,HN.out,List.take_length] at h;exact h);have hkn:¬ (k:Int)<(n:Int):=by omega
   go_wp2;go_ret;exact ⟨⟨_,rfl,HF.out⟩,HK.out⟩
end
section
open Go.RowKit
variable {Z:Option Nat}
theorem OwnInts.store_lt {w:World} {B g:Nat} {v:Value} {xs:List Int} (h:OwnInts w B v xs) (hg:g<B) (i:Nat) (u:Value):OwnInts (w.setCell ⟨g,i,none⟩ u) B v xs:=by
 obtain ⟨⟨h1,h2⟩,h3⟩:=h;refine ⟨⟨h1,h2.imp id ?_⟩,h3⟩;rintro ⟨g2,cap,cur,h4,h5,h6,h7⟩;exact ⟨g2,cap,cur,h4,h5,(Below.heap_setCell w ⟨g,i,none⟩ u g2 (show g2≠g by omega)).trans h6,h7⟩
theorem ai.below {w w':World} {B g:Nat} {e:TypeId} {xs:List Value} (h:ai w g e xs) (hb:Below B w w') (hg:g<B):ai w' g e xs:=h.same (hb.block g hg)
theorem kw (p:Nat->Bool) (l:List Nat) (k:Nat) (h:k<l.length):(l.take (k+1)).filter p=(l.take k).filter p++(if p l[k]=true then [l[k]] else []):=by
 rw [List.take_succ_eq_append_getElem h,List.filter_append];cases hp:p l[k] <;> simp [hp]
theorem eG (p:Nat->Bool) (l:List Nat) (k:Nat):((l.take k).filter p).length<=l.length :=
 Nat.le_trans (List.length_filter_le ..) (by rw [List.length_take];omega)
theorem uT (r a V:Nat) (v:Value) (T:Int) (hs:∃ a n c,v=.slice a n c) (hV:V<=24) (ha:a<V) (u:Value) (w:World) (hu:bK Z w u r) :
  Calls Tryz.prog 166 #[.agg #[.int .i64 V,v,.int .i64 T],.agg #[.int .i64 (aZ r),u],.int .i64 a] w fun e w'=>(∃ u',e=.returned (.agg #[.int .i64 (aZ (r ||| 2^a)),u'])/\bK Z w' u' (r ||| 2^a))/\af w w':=by
 obtain ⟨sa,n,c,rfl⟩:=hs;have h1:(a:Int)<(V:Int):=by omega
 have h2:¬ (a:Int)<0:=by omega
 have p1:=kS a (by omega);have hp:=gD (show a<24 by omega)
 have HU:Hid (∀ W,af w W->bK Z W u (r ||| 2^a)):=ae fun W hk=>by
  have:=hu.kept hk;unfold bK at this⊢;rw [rO r a (by omega)];exact this
 rw [(te (show a<24 by omega)).1];obtain ⟨ua,uc,rfl⟩:=hu.shape;obtain ⟨z,hz⟩:∃ z,z=2^a:=⟨_,rfl⟩;have hev:=fR r;generalize aZ r=e0 at *;rw [<-hz] at p1 hp HU⊢;have p2:=gC e0 z (by omega) (by omega);clear hz hu;obtain ⟨y,hy⟩:∃ y,y=e0 ||| z:=⟨_,rfl⟩
 rw [<-hy] at p2⊢;clear hy;generalize (ar r).length=un at *;go_enter Tryz.func166,Tryz.ntmps166;go_wp2;go_region;all_goals go_wp2
 all_goals exact bodyPost_ret (v:=.agg #[.int .i64 y,.slice ua un uc]) (by simp [results,Tryz.results166,go_sem]) rfl ⟨⟨_,rfl,HU.out _ (by first | exact ((((af.refl _).alloc _).alloc _).alloc _) | exact ((((af.refl _).alloc _).alloc _).alloc _).drew)⟩,by first | exact ((((af.refl _).alloc _).alloc _).alloc _) | exact ((((af.refl _).alloc _).alloc _).alloc _).drew⟩
theorem qz (r j V:Nat) (v:Value) (T:Int) (hs:∃ a n c,v=.slice a n c) (hV:V<=24) (hj:j<128) (u:Value) (w:World) (hZ:∀ z,Z=some z->z<w.heap.size) (hu:bK Z w u r) :
  Calls Tryz.prog 166 #[.agg #[.int .i64 V,v,.int .i64 T],.agg #[.int .i64 (aZ r),u],.int .i64 (V+j:Nat)] w fun e w'=>(∃ u',e=.returned (.agg #[.int .i64 (aZ (r ||| 2^(24+j))),u'])/\bK Z w' u' (r ||| 2^(24+j)))/\af w w':=by
 obtain ⟨sf,nf,cf,rfl⟩:=hs;rw [zO];have HFIN:=ae (oh r j hj)
 have HZ:Hid (∀ {W:World} {v:Value} {xs:List Int},OwnInts W (w.heap.size+4) v xs->∀ g,v.ownBlock=some g->Z≠some g):=ae fun ho g hg hz=>by
  have h1:=(ho.1.lt g hg).1;have h2:=hZ g hz;omega
 obtain ⟨sa,ca,rfl⟩:=hu.shape;have HG:=ae (fun i hi=>hu.get i hi);have hla:=c_ r;obtain ⟨t,ht⟩:∃ t,t=r ||| 2^(24+j):=⟨_,rfl⟩
 rw [<-ht] at HFIN⊢;clear hu ht hZ;generalize ar r=l at *;generalize aZ r=ev at *;obtain ⟨na,hna⟩:∃ n,n=l.length:=⟨_,rfl⟩;rw [<-hna] at hla⊢;have HNA:=ae hna;obtain ⟨a,haj⟩:∃ a,a=V+j:=⟨_,rfl⟩;rw [<-haj];have h1:¬ (a:Int)<(V:Int):=by omega
 have h3:IntKind.i64.wrap ((a:Int) - (V:Int))=(j:Int):=by rw [IntKind.wrap_i64];omega
 have h4:(a:Int) - (V:Int)=(j:Int):=by omega
 clear hna haj;go_enter Tryz.func166,Tryz.ntmps166;go_wp2;obtain ⟨L0,hL0⟩:∃ L:World,L=((w.alloc (.cells #[.int .i64 V,.slice sf nf cf,.int .i64 T] 41)).alloc (.cells #[.int .i64 ev,.slice sa na ca] 131)).alloc (.cells #[.int .i64 0,.slice none 0 0] 131):=⟨_,rfl⟩;have hsz0:L0.heap.size=w.heap.size+3:=by rw [hL0];simp
 have HK0:Hid (af w L0):=ae (by rw [hL0];exact (((af.refl _).alloc _).alloc _).alloc _);have c1:L0.cell? ⟨w.heap.size+1,1,none⟩=some (.slice sa na ca):=by rw [hL0];exact ((af.refl _).alloc _).cell (by simp)
 have HR2:Hid (ai L0 (w.heap.size+1+1) 131 [.int .i64 0,.slice none 0 0]):=ae (by rw [hL0];have:=ai.made ((w.alloc (.cells #[.int .i64 V,.slice sf nf cf,.int .i64 T] 41)).alloc (.cells #[.int .i64 ev,.slice sa na ca] 131)) #[.int .i64 0,.slice none 0 0] 131;simpa using this);have HR3:Hid (ai (L0.alloc (.cells #[.int .i64 ev,.slice none 0 0] 131)) (w.heap.size+1+1+1) 131 [.int .i64 ev,.slice none 0 0]):=ae (by have:=ai.made L0 #[.int .i64 ev,.slice none 0 0] 131;rw [hsz0] at this;exact this);have HL0:=ae hL0;clear hL0;go_loopg [35] na (fun kx s35 wr=>∃ (k:Nat) (vo:Value),s35=.int .i64 k/\k<=na/\na - k<=kx/\Hid (OwnInts wr (w.heap.size+4) vo (aO ((l.take k).filter (fun x=>decide (x<j)))))/\Hid (ai wr (w.heap.size+1+1+1) 131 [.int .i64 ev,vo])/\Hid (af L0 wr))
 case atStart=>exact ⟨0,_,rfl,Nat.zero_le _,by omega,ae (OwnInts.nil _ _),ae (by have:=HR3.out;rw [HL0.out] at this;exact this),ae (by rw [HL0.out];exact (af.refl _).alloc _)⟩
 case round =>
  obtain ⟨k,vo,rfl,hk,hkx,HO,HR,HK⟩:=hrel;have d1:=HK.out.cell c1;have hszr:=HR.out.lt;have m1:=HR.out.cell (i:=1) (by simp);have f1:=HR.out.free 1;simp only [List.getElem_cons_succ,List.getElem_cons_zero] at m1;obtain ⟨oa,on,oc,rfl⟩:=HO.out.ints.shape;by_cases hlt:k<na
  ·have hkl:k<l.length:=by have:=HNA.out;omega
   obtain ⟨bb,ob,rfl,hcb0⟩:=HG.out k (by rw [<-HNA.out];exact hlt);have hcb:=(HK0.out.trans HK.out).cell hcb0;have hnx:=kw (fun x=>decide (x<j)) l k hkl;have hfl:=eG (fun x=>decide (x<j)) l k;obtain ⟨x,hx⟩:∃ x,x=l[k]:=⟨_,rfl⟩;rw [<-hx] at hcb hnx;have hkn:(k:Int)<(na:Int):=by omega
   clear hcb0 hx;by_cases hxj:x<j
   ·rw [if_pos (by simpa using hxj)] at hnx;have hlen:(aO ((l.take k).filter (fun x=>decide (x<j)))).length<17592186044416:=by have:=HNA.out;simp [aO] at hfl⊢;omega
    have hnxi:aO ((l.take (k+1)).filter (fun x=>decide (x<j)))=aO ((l.take k).filter (fun x=>decide (x<j)))++[(x:Int)]:=by rw [hnx];simp [aO]
    have HNX:=ae hnxi;have hxj':(x:Int)<(j:Int):=by omega
    clear hnx hnxi hfl;generalize hfk:aO ((l.take k).filter (fun x=>decide (x<j)))=fk at *;go_wp2_with (at_builtin;refine dp rfl _ _ rfl (w.heap.size+4) _ fk rfl (HO.out.kept ((af.refl _).alloc _)) _ (x:Int) rfl (by simp) hlen (by simp;omega) ?_;intro v7 w7 hown7 _ hb7;have HR7:=ae ((HR.out.kept ((af.refl wr).alloc _)).below hb7 (by omega));have O7:=ae hown7;have HK7:Hid (af L0 w7):=ae (Below.trans (HK.out.alloc _) (Below.mono hb7 (by omega)));have n1:=HR7.out.cell (i:=1) (by simp);have g1:=HR7.out.free 1;obtain ⟨pa,pn,pc,rfl⟩:=hown7.ints.shape;clear hown7 hb7);go_roundg (na - (k+1))
    case measure=>omega
    case rel=>exact ⟨k+1,_,by go_num,by omega,Nat.le_refl _,ae (by rw [HNX.out];exact O7.out.store_lt (by omega) _ _),ae (HR7.out.store 1 _),ae (HK7.out.store (by omega) 1 _)⟩
   ·rw [if_neg (by simpa using hxj),List.append_nil] at hnx;have HO2:Hid (OwnInts wr (w.heap.size+4) (.slice oa on oc) (aO ((l.take (k+1)).filter (fun x=>decide (x<j))))):=ae (by rw [hnx];exact HO.out);have hxj':¬ (x:Int)<(j:Int):=by omega
    clear hnx hfl;go_wp2;go_roundg (na - (k+1))
    case measure=>omega
    case rel=>exact ⟨k+1,_,by go_num,by omega,Nat.le_refl _,HO2,HR,HK⟩
  ·have hkn:¬ (k:Int)<(na:Int):=by omega
   have hfl:=eG (fun x=>decide (x<j)) l k;have HOA:Hid (OwnInts wr (w.heap.size+4) (.slice oa on oc) (aO (l.filter (fun x=>decide (x<j))))):=ae (by have h:=HO.out;rw [show k=na by omega,HNA.out,List.take_length] at h;exact h);rw [show k=na by omega,HNA.out,List.take_length] at hfl;have hlen:(aO (l.filter (fun x=>decide (x<j)))).length<17592186044416:=by have:=HNA.out;simp [aO] at hfl⊢;omega
   obtain ⟨fa,hfa⟩:∃ fa,fa=l.filter (fun x=>decide (x<j)):=⟨_,rfl⟩;rw [<-hfa] at HFIN HOA hlen hfl;clear hfa HO;go_wp2_with (at_builtin;refine dp rfl _ _ rfl (w.heap.size+4) _ (aO fa) rfl (HOA.out.kept ((af.refl _).alloc _)) _ (j:Int) rfl (by simp) hlen (by simp;omega) ?_;intro v7 w7 hown7 _ hb7;have HR7:=ae ((HR.out.kept ((af.refl wr).alloc _)).below hb7 (by omega));have O7:=ae hown7;have HK7:Hid (af L0 w7):=ae (Below.trans (HK.out.alloc _) (Below.mono hb7 (by omega)));have n1:=HR7.out.cell (i:=1) (by simp);have g1:=HR7.out.free 1;obtain ⟨pa,pn,pc,rfl⟩:=hown7.ints.shape;have q1:=(HK7.out.cell c1);clear hown7 hb7);have HO8:Hid (OwnInts (w7.setCell ⟨w.heap.size+1+1+1,1,none⟩ (.slice pa pn pc)) (w.heap.size+4) (.slice pa pn pc) (aO (fa++[j]))):=ae (by have:=O7.out.store_lt (g:=w.heap.size+1+1+1) (by omega) 1 (.slice pa pn pc);simpa [aO] using this);have HR8:Hid (ai (w7.setCell ⟨w.heap.size+1+1+1,1,none⟩ (.slice pa pn pc)) (w.heap.size+1+1+1) 131 [.int .i64 ev,.slice pa pn pc]):=ae (HR7.out.store 1 _);have HK8:Hid (af L0 (w7.setCell ⟨w.heap.size+1+1+1,1,none⟩ (.slice pa pn pc))):=ae (HK7.out.store (by omega) 1 _);clear HOA HR HK O7 HR7 HK7 d1 m1 f1 n1 g1 q1;go_loopg [58] na (fun kx s58 wr=>∃ (k:Nat) (vo:Value),s58=.int .i64 k/\k<=na/\na - k<=kx/\Hid (OwnInts wr (w.heap.size+4) vo (aO ((fa++[j])++(l.take k).filter (fun x=>decide (j<x)))))/\Hid (ai wr (w.heap.size+1+1+1) 131 [.int .i64 ev,vo])/\Hid (af L0 wr))
   case atStart=>exact ⟨0,_,rfl,Nat.zero_le _,by omega,ae (by have:=HO8.out;simpa using this),HR8,HK8⟩
   case round =>
    obtain ⟨k,vo,rfl,hk,hkx,HO,HR,HK⟩:=hrel;have d1:=HK.out.cell c1;have hszr:=HR.out.lt;have m1:=HR.out.cell (i:=1) (by simp);have f1:=HR.out.free 1;simp only [List.getElem_cons_succ,List.getElem_cons_zero] at m1;obtain ⟨oa,on,oc,rfl⟩:=HO.out.ints.shape;by_cases hlt:k<na
    ·have hkl:k<l.length:=by have:=HNA.out;omega
     obtain ⟨bb,ob,rfl,hcb0⟩:=HG.out k (by rw [<-HNA.out];exact hlt);have hcb:=(HK0.out.trans HK.out).cell hcb0;have hnx:=kw (fun x=>decide (j<x)) l k hkl;have hfl:=eG (fun x=>decide (j<x)) l k;obtain ⟨x,hx⟩:∃ x,x=l[k]:=⟨_,rfl⟩;rw [<-hx] at hcb hnx;have hkn:(k:Int)<(na:Int):=by omega
     clear hcb0 hx;by_cases hxj:j<x
     ·rw [if_pos (by simpa using hxj)] at hnx;have hlen:(aO ((fa++[j])++(l.take k).filter (fun x=>decide (j<x)))).length<17592186044416:=by have:=HNA.out;simp [aO] at hfl⊢;omega
      have hnxi:aO ((fa++[j])++(l.take (k+1)).filter (fun x=>decide (j<x)))=aO ((fa++[j])++(l.take k).filter (fun x=>decide (j<x)))++[(x:Int)]:=by rw [hnx];simp [aO]
      have HNX:=ae hnxi;have hxj':(j:Int)<(x:Int):=by omega
      clear hnx hnxi hfl;generalize hfk:aO ((fa++[j])++(l.take k).filter (fun x=>decide (j<x)))=fk at *;go_wp2_with (at_builtin;refine dp rfl _ _ rfl (w.heap.size+4) _ fk rfl (HO.out.kept ((af.refl _).alloc _)) _ (x:Int) rfl (by simp) hlen (by simp;omega) ?_;intro v7 w7 hown7 _ hb7;have HR7:=ae ((HR.out.kept ((af.refl wr).alloc _)).below hb7 (by omega));have O7:=ae hown7;have HK7:Hid (af L0 w7):=ae (Below.trans (HK.out.alloc _) (Below.mono hb7 (by omega)));have n1:=HR7.out.cell (i:=1) (by simp);have g1:=HR7.out.free 1;obtain ⟨pa,pn,pc,rfl⟩:=hown7.ints.shape;clear hown7 hb7);go_roundg (na - (k+1))
      case measure=>omega
      case rel=>exact ⟨k+1,_,by go_num,by omega,Nat.le_refl _,ae (by rw [HNX.out];exact O7.out.store_lt (by omega) _ _),ae (HR7.out.store 1 _),ae (HK7.out.store (by omega) 1 _)⟩
     ·rw [if_neg (by simpa using hxj),List.append_nil] at hnx;have HO2:Hid (OwnInts wr (w.heap.size+4) (.slice oa on oc) (aO ((fa++[j])++(l.take (k+1)).filter (fun x=>decide (j<x))))):=ae (by rw [hnx];exact HO.out);have hxj':¬ (j:Int)<(x:Int):=by omega
      clear hnx hfl;go_wp2;go_roundg (na - (k+1))
      case measure=>omega
      case rel=>exact ⟨k+1,_,by go_num,by omega,Nat.le_refl _,HO2,HR,HK⟩
    ·have hkn:¬ (k:Int)<(na:Int):=by omega
     have HN:Hid (OwnInts wr (w.heap.size+4) (.slice oa on oc) (aO (ar t))):=ae (by have h:=HO.out;rw [show k=na by omega,HNA.out,List.take_length] at h;rw [HFIN.out];simpa using h);have HR2':=ae (HR2.out.kept HK.out);have p0:=HR2'.out.cell (i:=0) (by simp);have p1:=HR2'.out.cell (i:=1) (by simp);have p2:=HR2'.out.free 0;have p3:=HR2'.out.free 1;have m0:=HR.out.cell (i:=0) (by simp);simp only [List.getElem_cons_succ,List.getElem_cons_zero] at m0 p0 p1;clear HO;go_wp2;have HR9:=ae ((HR2'.out.store 0 (.int .i64 ev)).store 1 (.slice oa on oc));have r0:=HR9.out.cell (i:=0) (by simp);have r1:=HR9.out.cell (i:=1) (by simp);simp only [List.set_cons_succ,List.set_cons_zero,List.getElem_cons_succ,List.getElem_cons_zero] at r0 r1;exact bodyPost_ret (v:=.agg #[.int .i64 ev,.slice oa on oc]) (by simp [results,Tryz.results166,go_sem,r0,r1]) rfl ⟨⟨_,rfl,OwnInts.mono ((HN.out.store_lt (by omega) 0 _).store_lt (by omega) 1 _) (Nat.zero_le _),HZ.out HN.out⟩,((HK0.out.trans HK.out).store (by omega) 0 _).store (by omega) 1 _⟩
theorem mb (r V:Nat) (v:Value) (T:Int) (hs:∃ a n c,v=.slice a n c) (hV:V<=24) (a:Int) (ha:0<=a/\a<(V:Int)+128) (u:Value) (w:World) (hZ:∀ z,Z=some z->z<w.heap.size) (hu:bK Z w u r) :
  Calls Tryz.prog 166 #[.agg #[.int .i64 V,v,.int .i64 T],.agg #[.int .i64 (aZ r),u],.int .i64 a] w fun e w'=>(∃ u',e=.returned (.agg #[.int .i64 (aZ (aJ V r a)),u'])/\bK Z w' u' (aJ V r a))/\af w w':=by
 unfold aJ cond;by_cases h:a<V
 ·rw [if_pos h];have:=uT r a.toNat V v T hs hV (by omega) u w hu;rw [show ((a.toNat:Nat):Int)=a by omega] at this;exact this
 ·rw [if_neg h];have:=qz r (a - V).toNat V v T hs hV (by omega) u w hZ hu;rw [show ((V+(a - V).toNat:Nat):Int)=a by omega] at this;exact this
end
section
open Go.RowKit
variable {Z:Option Nat}
theorem cq {B:Nat} {w w':World} (h:Below B w w') {b o:Nat} (hb:b<B) {v:Value} (hc:w.cell? ⟨b,o,none⟩=some v):w'.cell? ⟨b,o,none⟩=some v:=(Below.cell h hb).trans hc
theorem qk (V m r:Nat) (T room:Int) (fa aa:Option Addr) (fn fc ac:Nat) (u:Value) (W:World) (hu:bK Z W u r) (hr:aB 152 r) :
  Calls Tryz.prog 228 #[.agg #[.int .i64 V,.slice fa fn fc,.int .i64 T],.agg #[.int .i64 (aZ r),u],.slice aa m ac,.int .i64 0,.int .i64 room] W fun e w'=>(∃ v',e=.returned v'/\aw Z w' W.heap.size v' [r])/\af W w':=by
 have HU:=ae hu;obtain ⟨ua,uc,rfl⟩:=hu.shape;have HR:=ae hr;obtain ⟨x0,hx0⟩:∃ x,x=aZ r:=⟨_,rfl⟩;obtain ⟨un,hun⟩:∃ x,x=(ar r).length:=⟨_,rfl⟩
 have HX:Hid (∀ W1:World,W.heap.size<=W1.heap.size->af W W1->aw Z (W1.alloc (.cells #[.int .i64 x0,.slice ua un uc] 131)) W.heap.size (.slice (some ⟨W1.heap.size,0,none⟩) 1 1) [r]):=ae fun W1 h hk=>by
  refine aw.one (u:=.slice ua un uc) (by rw [<-hx0];exact heap_alloc_new W1 _) ?_ HR.out h;have:=HU.out.kept (hk.trans ((af.refl W1).alloc (.cells #[.int .i64 x0,.slice ua un uc] 131)));rw [<-hun] at this;exact this
 rw [<-hx0,<-hun];clear hu hr hx0 hun HU;go_enter Tryz.func228,Tryz.ntmps228;go_wp2;go_ret;refine ⟨⟨_,rfl,?_⟩,(((af.refl _).alloc _).alloc _).alloc _⟩;have:=HX.out ((W.alloc (.cells #[.int .i64 V,.slice fa fn fc,.int .i64 T] 41)).alloc (.cells #[.int .i64 x0,.slice ua un uc] 131)) (by simp;omega) (((af.refl _).alloc _).alloc _);simpa using this
theorem qj (V m k x0 un:Nat) (T room:Int) (fa aa ua:Option Addr) (fn fc ac uc:Nat) (W:World) (hk:k≠0) (h:m<k\/room<0) :
  Calls Tryz.prog 228 #[.agg #[.int .i64 V,.slice fa fn fc,.int .i64 T],.agg #[.int .i64 x0,.slice ua un uc],.slice aa m ac,.int .i64 k,.int .i64 room] W fun e w'=>e=.returned (.slice none 0 0)/\af W w':=by
 have hk0:((k:Int) == 0)=false:=by simp;omega
 by_cases h1:m<k
 ·have h1':(m:Int)<(k:Int):=by omega
  clear h hk h1;go_enter Tryz.func228,Tryz.ntmps228;go_wp2;go_ret;exact ⟨rfl,((af.refl _).alloc _).alloc _⟩
 ·have h1':¬ (m:Int)<(k:Int):=by omega
  have h2:room<0:=h.resolve_left h1;clear h hk h1;go_enter Tryz.func228,Tryz.ntmps228;go_wp2;go_ret;exact ⟨rfl,((af.refl _).alloc _).alloc _⟩
theorem xu (V m k k1 b o ac x0 y0 un r1:Nat) (T a room room2:Int) (fa ua:Option Addr) (fn fc uc:Nat) (tv:Value) (M1 M2:List Nat) (W:World) (hk:1<=k) (hkm:k<=m) (hm:m<=200) (hmc:m<=ac) (hk1:k1=k - 1)
  (hrm:0<=room/\room<=10000) (hl1:M1.length<=10001) (hl2:M2.length<=9999) (hr2:room2=room - M1.length)
  (htv:(2<=ac/\tv=.slice (some ⟨b,o+1,none⟩) (m - 1) (ac - 1))\/(ac=1/\tv=.slice (some ⟨b,o,none⟩) 0 0))
  (harg:W.cell? ⟨b,o,none⟩=some (.int .i64 a))
  (hwith:∀ W',af W W'->Calls Tryz.prog 166 #[.agg #[.int .i64 V,.slice fa fn fc,.int .i64 T],.agg #[.int .i64 x0,.slice ua un uc],.int .i64 a] W' fun e w'=>(∃ u',e=.returned (.agg #[.int .i64 y0,u'])/\bK Z w' u' r1)/\af W' w')
  (hc1:∀ u' W',af W W'->bK Z W' u' r1->Calls Tryz.prog 228 #[.agg #[.int .i64 V,.slice fa fn fc,.int .i64 T],.agg #[.int .i64 y0,u'],tv,.int .i64 k1,.int .i64 room] W' fun e w'=>(∃ v',e=.returned v'/\aw Z w' W'.heap.size v' M1)/\af W' w')
  (hc2:∀ W',af W W'->Calls Tryz.prog 228 #[.agg #[.int .i64 V,.slice fa fn fc,.int .i64 T],.agg #[.int .i64 x0,.slice ua un uc],tv,.int .i64 k,.int .i64 room2] W' fun e w'=>(∃ v',e=.returned v'/\aw Z w' W'.heap.size v' M2)/\af W' w') :
  Calls Tryz.prog 228 #[.agg #[.int .i64 V,.slice fa fn fc,.int .i64 T],.agg #[.int .i64 x0,.slice ua un uc],.slice (some ⟨b,o,none⟩) m ac,.int .i64 k,.int .i64 room] W fun e w'=>(∃ v',e=.returned v'/\aw Z w' W.heap.size v' (M1++M2))/\af W w':=by
 obtain ⟨w1,hw1⟩:∃ w1,w1=(W.alloc (.cells #[.int .i64 V,.slice fa fn fc,.int .i64 T] 41)).alloc (.cells #[.int .i64 x0,.slice ua un uc] 131):=⟨_,rfl⟩;have hkw:af W w1:=by rw [hw1];exact ((af.refl _).alloc _).alloc _
 have q0:w1.cell? ⟨W.heap.size,0,none⟩=some (.int .i64 V):=by rw [hw1];simp
 have q1:w1.cell? ⟨W.heap.size,1,none⟩=some (.slice fa fn fc):=by rw [hw1];simp
 have q2:w1.cell? ⟨W.heap.size,2,none⟩=some (.int .i64 T):=by rw [hw1];simp
 have q3:w1.cell? ⟨W.heap.size+1,0,none⟩=some (.int .i64 x0):=by rw [hw1];simp
 have q4:w1.cell? ⟨W.heap.size+1,1,none⟩=some (.slice ua un uc):=by rw [hw1];simp
 have qa:=hkw.cell harg;have HWI:Hid (∀ W',af w1 W'->Calls Tryz.prog 166 #[.agg #[.int .i64 V,.slice fa fn fc,.int .i64 T],.agg #[.int .i64 x0,.slice ua un uc],.int .i64 a] W' fun e w'=>(∃ u',e=.returned (.agg #[.int .i64 y0,u'])/\bK Z w' u' r1)/\af W' w'):=ae fun W' hk=>hwith W' (hkw.trans hk)
 have HC1:Hid (∀ u' W',af w1 W'->bK Z W' u' r1->Calls Tryz.prog 228 #[.agg #[.int .i64 V,.slice fa fn fc,.int .i64 T],.agg #[.int .i64 y0,u'],tv,.int .i64 k1,.int .i64 room] W' fun e w'=>(∃ v',e=.returned v'/\aw Z w' W'.heap.size v' M1)/\af W' w'):=ae fun u' W' hk hn=>hc1 u' W' (hkw.trans hk) hn
 have HC2:Hid (∀ W',af w1 W'->Calls Tryz.prog 228 #[.agg #[.int .i64 V,.slice fa fn fc,.int .i64 T],.agg #[.int .i64 x0,.slice ua un uc],tv,.int .i64 k,.int .i64 room2] W' fun e w'=>(∃ v',e=.returned v'/\aw Z w' W'.heap.size v' M2)/\af W' w'):=ae fun W' hk=>hc2 W' (hkw.trans hk)
 have HKW:=ae hkw;have HSZ1:Hid (w1.heap.size=W.heap.size+2):=ae (by rw [hw1];simp);have HW1:Hid (w1=(W.alloc (.cells #[.int .i64 V,.slice fa fn fc,.int .i64 T] 41)).alloc (.cells #[.int .i64 x0,.slice ua un uc] 131)):=ae hw1;obtain ⟨n1,hn1⟩:∃ n1,n1=M1.length:=⟨_,rfl⟩;rw [<-hn1] at hl1 hr2;have HN1:=ae hn1;have hl12:M1.length+M2.length<=20000:=by omega
 have HL12:=ae hl12;have hkm':¬ (m:Int)<(k:Int):=by omega
 have hk0:((k:Int) == 0)=false:=by simp;omega
 have hm1:(0:Int)<(m:Int):=by omega
 have hm2:1<=(m:Int):=by omega
 have hm3:0<m:=by omega
 have hk9:(k:Int)<=200:=by omega
 have hk91:1<=(k:Int):=by omega
 have hmac:1<=(ac:Int):=by omega
 have hkk:(k:Int) - 1=(k1:Int):=by omega
 have hrr:room - (n1:Int)=room2:=by omega
 have hrw:IntKind.i64.wrap room2=room2:=by rw [IntKind.wrap_i64];omega
 have hkw1:IntKind.i64.wrap (k1:Int)=(k1:Int):=by rw [IntKind.wrap_i64];omega
 obtain ⟨hrm0,hrm1⟩:=hrm;have hr0:¬ room<0:=by omega
 rcases htv with ⟨hac,rfl⟩ | ⟨hac,rfl⟩
 ·have hac1:¬ ac=1:=(by omega);have hac2:¬ (ac:Int)=1:=(by omega);clear hc1 hc2 hwith hkw harg hk1 hk hkm hw1 hr2 hn1 hl12 hl1 hl2;go_enter Tryz.func228,Tryz.ntmps228;go_wp2;rw [<-HW1.out];go_upto_region 5 with fail
  go_cut [11] (fun p11 wx=>∃ v1,p11=v1/\Hid (aw Z wx w1.heap.size v1 M1)/\Hid (af w1 wx))
  case first =>
   go_region_held3 (fun w'=>w'.cell? ⟨W.heap.size,0,none⟩=some (.int .i64 V)/\w'.cell? ⟨W.heap.size,1,none⟩=some (.slice fa fn fc)/\w'.cell? ⟨W.heap.size,2,none⟩=some (.int .i64 T)/\w'.cell? ⟨W.heap.size+1,0,none⟩=some (.int .i64 x0)/\w'.cell? ⟨W.heap.size+1,1,none⟩=some (.slice ua un uc)/\w'.cell? ⟨b,o,none⟩=some (.int .i64 a))
    (first | go_keep | exact ⟨hk3.cell q0,hk3.cell q1,hk3.cell q2,hk3.cell q3,hk3.cell q4,hk3.cell qa⟩ | exact ⟨hk4.cell (hk3.cell q0),hk4.cell (hk3.cell q1),hk4.cell (hk3.cell q2),hk4.cell (hk3.cell q3),hk4.cell (hk3.cell q4),hk4.cell (hk3.cell qa)⟩)
    (first | (go_at_call 166;refine (HWI.out _ (af.refl _).drew).mono ?_;rintro e w3 ⟨⟨u3,rfl,hu3⟩,hk3⟩;obtain ⟨ua3,uc3,rfl⟩:=hu3.shape;have HU3:=ae hu3;clear hu3) | (go_at_call 228;refine (HC1.out _ _ ((af.refl _).drew.trans hk3) HU3.out).mono ?_;rintro e w4 ⟨⟨v4,rfl,hv4⟩,hk4⟩;obtain ⟨va4,vc4,rfl,_⟩:=hv4.slice;have HV4:=ae hv4;clear hv4))
   all_goals
    have HV5:=ae (HV4.out.mono (B':=w1.heap.size) (by have h2:=((af.refl w1).drew.trans hk3).size;omega));have HK5:=ae (((af.refl w1).drew.trans hk3).trans hk4);clear hk3 hk4;go_wp2_with fail;go_meet;exact ⟨_,rfl,HV5,HK5⟩
  case rest =>
   obtain ⟨v1,rfl,HO1,HK1⟩:=hcut;obtain ⟨va1,vc1,hv1,_⟩:=HO1.out.slice;rw [<-HN1.out] at hv1;subst hv1;have g0:=HK1.out.cell q0;have g1:=HK1.out.cell q1;have g2:=HK1.out.cell q2;have g3:=HK1.out.cell q3;have g4:=HK1.out.cell q4;have HC3:Hid (∀ W',af wc W'->Calls Tryz.prog 228 #[.agg #[.int .i64 V,.slice fa fn fc,.int .i64 T],.agg #[.int .i64 x0,.slice ua un uc],.slice (some ⟨b,o+1,none⟩) (m - 1) (ac - 1),.int .i64 k,.int .i64 room2] W' fun e w'=>(∃ v',e=.returned v'/\aw Z w' W'.heap.size v' M2)/\af W' w'):=ae fun W' hk=>HC2.out W' (HK1.out.trans hk)
   have HSZ:Hid (w1.heap.size<=wc.heap.size):=ae HK1.out.size;clear q0 q1 q2 q3 q4 qa HC1 HC2 HWI hkw1;go_upto_region 6 with fail
   go_region_held3 (fun w'=>w'.cell? ⟨W.heap.size,0,none⟩=some (.int .i64 V)/\w'.cell? ⟨W.heap.size,1,none⟩=some (.slice fa fn fc)/\w'.cell? ⟨W.heap.size,2,none⟩=some (.int .i64 T)/\w'.cell? ⟨W.heap.size+1,0,none⟩=some (.int .i64 x0)/\w'.cell? ⟨W.heap.size+1,1,none⟩=some (.slice ua un uc))
    (first | go_keep | exact ⟨hk4.cell g0,hk4.cell g1,hk4.cell g2,hk4.cell g3,hk4.cell g4⟩ | exact ⟨cq HB7.out (by have:=HSZ1.out;omega) (hk4.cell g0),cq HB7.out (by have:=HSZ1.out;omega) (hk4.cell g1),cq HB7.out (by have:=HSZ1.out;omega) (hk4.cell g2),cq HB7.out (by have:=HSZ1.out;omega) (hk4.cell g3),cq HB7.out (by have:=HSZ1.out;omega) (hk4.cell g4)⟩)
    (first
     | (go_at_call 228;refine (HC3.out _ ((af.refl _).drew)).mono ?_;rintro e w4 ⟨⟨v4,rfl,hv4⟩,hk4⟩;obtain ⟨va4,vc4,rfl,_⟩:=hv4.slice;have HV4:=ae hv4;clear hv4)
     | (refine qH (by rfl) _ _ (by rfl) w1.heap.size (.slice va1 n1 vc1) M1 (by rfl) (HO1.out.kept ((af.refl _).drew.trans hk4)) (.slice va4 M2.length vc4) M2 (by rfl) (HV4.out.mono (Nat.zero_le _)) HL12.out (by have h1:=HSZ.out;have h2:=((af.refl wc).drew.trans hk4).size;omega) ?_;intro v7 w7 h7 hb7;have O7:=ae h7;have HB7:=ae hb7;clear h7 hb7))
   all_goals
    obtain ⟨va7,vc7,hv7,_⟩:=O7.out.slice;subst hv7;go_wp2;go_ret;exact ⟨⟨_,rfl,O7.out.mono HKW.out.size⟩,(HKW.out.trans (HK1.out.trans ((af.refl wc).drew.trans hk4))).app (HB7.out.mono HKW.out.size)⟩
 ·subst hac
  skip
  clear hc1 hc2 hwith hkw harg hk1 hk hkm hw1 hr2 hn1 hl12 hl1 hl2;go_enter Tryz.func228,Tryz.ntmps228;go_wp2;rw [<-HW1.out];go_upto_region 5 with fail
  go_cut [11] (fun p11 wx=>∃ v1,p11=v1/\Hid (aw Z wx w1.heap.size v1 M1)/\Hid (af w1 wx))
  case first =>
   go_region_held3 (fun w'=>w'.cell? ⟨W.heap.size,0,none⟩=some (.int .i64 V)/\w'.cell? ⟨W.heap.size,1,none⟩=some (.slice fa fn fc)/\w'.cell? ⟨W.heap.size,2,none⟩=some (.int .i64 T)/\w'.cell? ⟨W.heap.size+1,0,none⟩=some (.int .i64 x0)/\w'.cell? ⟨W.heap.size+1,1,none⟩=some (.slice ua un uc)/\w'.cell? ⟨b,o,none⟩=some (.int .i64 a))
    (first | go_keep | exact ⟨hk3.cell q0,hk3.cell q1,hk3.cell q2,hk3.cell q3,hk3.cell q4,hk3.cell qa⟩ | exact ⟨hk4.cell (hk3.cell q0),hk4.cell (hk3.cell q1),hk4.cell (hk3.cell q2),hk4.cell (hk3.cell q3),hk4.cell (hk3.cell q4),hk4.cell (hk3.cell qa)⟩)
    (first | (go_at_call 166;refine (HWI.out _ (af.refl _).drew).mono ?_;rintro e w3 ⟨⟨u3,rfl,hu3⟩,hk3⟩;obtain ⟨ua3,uc3,rfl⟩:=hu3.shape;have HU3:=ae hu3;clear hu3) | (go_at_call 228;refine (HC1.out _ _ ((af.refl _).drew.trans hk3) HU3.out).mono ?_;rintro e w4 ⟨⟨v4,rfl,hv4⟩,hk4⟩;obtain ⟨va4,vc4,rfl,_⟩:=hv4.slice;have HV4:=ae hv4;clear hv4))
   all_goals
    have HV5:=ae (HV4.out.mono (B':=w1.heap.size) (by have h2:=((af.refl w1).drew.trans hk3).size;omega));have HK5:=ae (((af.refl w1).drew.trans hk3).trans hk4);clear hk3 hk4;go_wp2_with fail;go_meet;exact ⟨_,rfl,HV5,HK5⟩
  case rest =>
   obtain ⟨v1,rfl,HO1,HK1⟩:=hcut;obtain ⟨va1,vc1,hv1,_⟩:=HO1.out.slice;rw [<-HN1.out] at hv1;subst hv1;have g0:=HK1.out.cell q0;have g1:=HK1.out.cell q1;have g2:=HK1.out.cell q2;have g3:=HK1.out.cell q3;have g4:=HK1.out.cell q4;have HC3:Hid (∀ W',af wc W'->Calls Tryz.prog 228 #[.agg #[.int .i64 V,.slice fa fn fc,.int .i64 T],.agg #[.int .i64 x0,.slice ua un uc],.slice (some ⟨b,o,none⟩) 0 0,.int .i64 k,.int .i64 room2] W' fun e w'=>(∃ v',e=.returned v'/\aw Z w' W'.heap.size v' M2)/\af W' w'):=ae fun W' hk=>HC2.out W' (HK1.out.trans hk)
   have HSZ:Hid (w1.heap.size<=wc.heap.size):=ae HK1.out.size;clear q0 q1 q2 q3 q4 qa HC1 HC2 HWI hkw1;go_upto_region 6 with fail
   go_region_held3 (fun w'=>w'.cell? ⟨W.heap.size,0,none⟩=some (.int .i64 V)/\w'.cell? ⟨W.heap.size,1,none⟩=some (.slice fa fn fc)/\w'.cell? ⟨W.heap.size,2,none⟩=some (.int .i64 T)/\w'.cell? ⟨W.heap.size+1,0,none⟩=some (.int .i64 x0)/\w'.cell? ⟨W.heap.size+1,1,none⟩=some (.slice ua un uc))
    (first | go_keep | exact ⟨hk4.cell g0,hk4.cell g1,hk4.cell g2,hk4.cell g3,hk4.cell g4⟩ | exact ⟨cq HB7.out (by have:=HSZ1.out;omega) (hk4.cell g0),cq HB7.out (by have:=HSZ1.out;omega) (hk4.cell g1),cq HB7.out (by have:=HSZ1.out;omega) (hk4.cell g2),cq HB7.out (by have:=HSZ1.out;omega) (hk4.cell g3),cq HB7.out (by have:=HSZ1.out;omega) (hk4.cell g4)⟩)
    (first
     | (go_at_call 228;refine (HC3.out _ ((af.refl _).drew)).mono ?_;rintro e w4 ⟨⟨v4,rfl,hv4⟩,hk4⟩;obtain ⟨va4,vc4,rfl,_⟩:=hv4.slice;have HV4:=ae hv4;clear hv4)
     | (refine qH (by rfl) _ _ (by rfl) w1.heap.size (.slice va1 n1 vc1) M1 (by rfl) (HO1.out.kept ((af.refl _).drew.trans hk4)) (.slice va4 M2.length vc4) M2 (by rfl) (HV4.out.mono (Nat.zero_le _)) HL12.out (by have h1:=HSZ.out;have h2:=((af.refl wc).drew.trans hk4).size;omega) ?_;intro v7 w7 h7 hb7;have O7:=ae h7;have HB7:=ae hb7;clear h7 hb7))
   all_goals
    obtain ⟨va7,vc7,hv7,_⟩:=O7.out.slice;subst hv7;go_wp2;go_ret;exact ⟨⟨_,rfl,O7.out.mono HKW.out.size⟩,(HKW.out.trans (HK1.out.trans ((af.refl wc).drew.trans hk4))).app (HB7.out.mono HKW.out.size)⟩
theorem ox (V:Nat) (T:Int) (v0:Value) (hs:∃ a n c,v0=.slice a n c) (hV:V<=24) :
  ∀ (args:List Int) (va:Value) (W0:World),(∀ z,Z=some z->z<W0.heap.size)->aq W0 va args->(∀ a∈args,0<=a/\a<(V:Int)+128)->args.length<=100->∀ (k r:Nat) (room:Int) (u:Value) (W:World),af W0 W->bK Z W u r->aB 152 r->k<=1000->-10<=room->room<=9998 ->
   Calls Tryz.prog 228 #[.agg #[.int .i64 V,v0,.int .i64 T],.agg #[.int .i64 (aZ r),u],va,.int .i64 k,.int .i64 room] W fun e w'=>(∃ v',e=.returned v'/\aw Z w' W.heap.size v' (bM V args k r room))/\af W w':=by
 obtain ⟨fa,fn,fc,rfl⟩:=hs;intro args;induction args with
 | nil =>
  intro va W0 hZ hva _ _ k r room u W hW hu hr _ _ _;obtain ⟨aa,an,ac,rfl⟩:=hva.shape
  have han:an=0:=by
   obtain ⟨_,_,h,_⟩:=hva;injection h
  subst han;by_cases hk0:k=0
  ·subst hk0;rw [eW];exact qk V 0 r T room fa aa fn fc ac u W hu hr
  ·obtain ⟨ua,uc,rfl⟩:=hu.shape;refine (qj V 0 k (aZ r) (ar r).length T room fa aa ua fn fc ac uc W hk0 (.inl (by omega))).mono fun e w' ⟨he,hk⟩=>⟨⟨_,he,?_⟩,hk⟩
   unfold bM;rw [if_neg hk0];exact aw.nil _ _
 | cons a l ih =>
  intro va W0 hZ hva hargs hal k r room u W hW hu hr hk hr0 hr9;have hvW:=hva.kept hW;obtain ⟨aa,an,ac,rfl⟩:=hva.shape
  have han:an=l.length+1:=by
   obtain ⟨_,_,h,_⟩:=hva;injection h
  subst han;by_cases hk0:k=0
  ·subst hk0;rw [eW];exact qk V _ r T room fa aa fn fc ac u W hu hr
  ·by_cases hno:l.length+1<k\/room<0
   ·obtain ⟨ua,uc,rfl⟩:=hu.shape;refine (qj V _ k (aZ r) (ar r).length T room fa aa ua fn fc ac uc W hk0 hno).mono fun e w' ⟨he,hk⟩=>⟨⟨_,he,?_⟩,hk⟩
    unfold bM;rw [if_neg hk0,if_pos hno];exact aw.nil _ _
   ·have hlt:∀ x∈l,0<=x/\x<(V:Int)+128:=fun x hx=>hargs x (List.mem_cons_of_mem _ hx)
    have ha:=hargs a (List.mem_cons_self ..);have hr1:aB 152 (aJ V r a):=eY hr (d_ (cG (V:=V) (m:=128) (by omega) hV) (by omega))
    have hac:l.length+1<=ac:=by
     obtain ⟨_,_,h1,h2,_⟩:=hva;injection h1 with _ _ h3
     rw [h3];simpa using h2.1
    obtain ⟨b,o,rfl,hca⟩:∃ b o,aa=some ⟨b,o,none⟩/\W.cell? ⟨b,o,none⟩=some (.int .i64 a):=by
     obtain ⟨a',c',h1,_,_,h4⟩:=hvW;injection h1 with h1 h2 h3
     obtain ⟨b,o,h5,h6⟩:=h4 0 (by simp);exact ⟨b,o,by rw [h1,h5],by simpa using h6⟩
    obtain ⟨ua,uc,rfl⟩:=hu.shape;simp at hal
    have hlen1:(bM V l (k - 1) (aJ V r a) room).length<=room.toNat+1:=by
     by_cases e:k - 1=0
     ·rw [e,eW];simp
     ·have:=j' V l (k - 1) (aJ V r a) room e;omega
    have hlen2:=j' V l k r (room - (bM V l (k - 1) (aJ V r a) room).length) hk0
    have htail:∃ tv,((2<=ac/\tv=.slice (some ⟨b,o+1,none⟩) (l.length+1 - 1) (ac - 1))\/(ac=1/\tv=.slice (some ⟨b,o,none⟩) 0 0))/\aq W tv l:=by
     by_cases h2:2<=ac
     ·exact ⟨_,.inl ⟨h2,rfl⟩,mU hvW h2⟩
     ·have hl0:l=[]:=List.eq_nil_of_length_eq_zero (by omega);subst hl0;exact ⟨_,.inr ⟨by omega,rfl⟩,⟨some ⟨b,o,none⟩,0,rfl,⟨by simp,fun h=>by cases h⟩,by simp,fun i hi=>by simp at hi⟩⟩
    obtain ⟨tv,htv,hti⟩:=htail
    have e1:bM V (a :: l) k r room=bM V l (k - 1) (aJ V r a) room++bM V l k r (room - (bM V l (k - 1) (aJ V r a) room).length):=by
     conv=>lhs;unfold bM
     rw [if_neg hk0,if_neg hno]
    rw [e1]
    refine xu V (l.length+1) k (k - 1) b o ac (aZ r) (aZ (aJ V r a)) (ar r).length (aJ V r a) T a room _ fa ua fn fc uc tv _ _ W (by omega) (by omega) (by omega) hac rfl ⟨by omega,by omega⟩ (by omega) (by omega) rfl htv hca
     (fun W' hk'=>mb r V (.slice fa fn fc) T ⟨_,_,_,rfl⟩ hV a ha _ W' (fun z hz=>by have h1:=hZ z hz;have h2:=hW.size;have h3:=hk'.size;omega) (hu.kept hk'))
     (fun u' W' hk' hu'=>ih tv W (fun z hz=>by have h1:=hZ z hz;have h2:=hW.size;omega) hti hlt (by omega) (k - 1) (aJ V r a) room u' W' hk' hu' hr1 (by omega) hr0 hr9)
     (fun W' hk'=>ih tv W (fun z hz=>by have h1:=hZ z hz;have h2:=hW.size;omega) hti hlt (by omega) k r _ _ W' hk' (hu.kept hk') hr hk (by omega) (by omega))
end
end Go.Proofs.YtofibjflkebkpaaGreatDoor
