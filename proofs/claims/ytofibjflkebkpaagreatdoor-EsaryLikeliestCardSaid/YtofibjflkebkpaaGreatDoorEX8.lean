import Derived.WalkKit
import Derived.WalkSpells
import Derived.WalkLawsBesides
import Derived.Deep.QuietTactic
import Derived.BigQuiet
import Derived.Lib.Hide
import Derived.Shelf.Abstract
import Derived.Deep.RegionWith
import Derived.Laws.AppendOwnNone
import Derived.Lib.AppendZerosOnto
import Derived.Lib.SliceRun
import Derived.Lib.SlicesCompact
import Derived.Shelf.SlSortCmp.NoneTotal
import Derived.Maps.OwnOps
import Derived.Maps.OwnSet
import Derived.Maps.Views
import Derived.Deep.MidRow
import Derived.Deep.RegionHeld3
import Derived.Deep.AppendLies
import Derived.Deep.RegionLaw
import Derived.IntWalk
import Derived.StillTailTactics
import Derived.RegionTactic
import Derived.BigRegion
import Derived.ChangeAlike
import Derived.Sort.LotD2
import Derived.Sort.LotA
import Derived.Shelf.SlSortCmp.PdqK
import Derived.Deep.DeepCutAuto
import Derived.Lib.ItoaNum
import Derived.Deep.LoopGhost
import Derived.ProofKit
import Derived.OpenShut
import Derived.SizedLaws
import Derived.Lib.SmallJoins
import Derived.Deep.Slices
import Derived.Deep.Fields
import Derived.Deep.Strs
import Derived.Carry
import Derived.Lib.BitFns
import Derived.Deep.CutBlock
import Derived.Test.YtofibjflkebkpaaGreatDoorEX7
import Derived.Test.YtofibjflkebkpaaGreatDoorEX2
import Derived.Test.YtofibjflkebkpaaGreatDoorEX4
import Derived.Test.YtofibjflkebkpaaGreatDoorEX6
import Derived.Test.YtofibjflkebkpaaGreatDoorEX1
import Derived.Test.YtofibjflkebkpaaGreatDoorShelf
import Derived.Laws.IdiomStrings
import Derived.Test.YtofibjflkebkpaaGreatDoorEX5
set_option maxRecDepth 100000
set_option maxHeartbeats 16000000
namespace Go.Proofs.YtofibjflkebkpaaGreatDoor
open Go.RowKit
theorem Bl (va:Value) (xs:List Int) (w:World) (hv:am w va xs):Calls Tryz.prog 157 #[va] w fun e w'=>e=.returned (.int .i64 (dg xs))/\w=w':=by
 obtain ⟨a,c,rfl,_,hl,hx⟩:=hv;obtain ⟨m,hm⟩:∃ m,m=xs.length:=⟨_,rfl⟩;rw [<-hm];have hm9:m<=140737488355328:=by omega
 have HX:=af hx;have HM:=af hm;clear hx hm hl;by_cases hlen:m<=1024
 ·have hl1:¬ (1024:Int)<(m:Int):=by omega
  go_enter Tryz.func157,Tryz.ntmps157;go_wp2;go_loopg [10] m (fun kx s19 wq=>∃ q:Nat,q<=m/\s19=.int .i64 q/\m - q<=kx/\Hid (∀ x∈xs.take q,0<=x/\x<=16777215)/\w=wq)
  case atStart=>exact ⟨0,Nat.zero_le _,rfl,by omega,af (by simp),rfl⟩
  case round =>
   obtain ⟨q,hq,rfl,hqx,HF,rfl⟩:=hrel;by_cases hqm:q<m
   ·have hqx:q<xs.length:=by have:=HM.out;omega
    obtain ⟨b2,o2,rfl,hcell2⟩:=HX.out q hqx;obtain ⟨s,hs⟩:∃ s,s=xs[q]:=⟨_,rfl⟩;rw [<-hs] at hcell2;have HS:=af hs;have hqi:(q:Int)<(m:Int):=by omega
    cases hd:decide (0<=s/\s<=16777215) with
    | true =>
     have HVA:Hid (∀ W,Calls Tryz.prog 222 #[.int .i64 s] W fun e w'=>e=.returned (.bool true)/\W=w'):=af fun W=>by have:=pH s W;rwa [hd] at this
     have HD:=af (of_decide_eq_true hd);clear hd hs;go_wp2_with (go_at_call 222;refine (HVA.out _).mono ?_;rintro e w' ⟨rfl,rfl⟩);go_roundg (m - (q+1))
     case measure=>omega
     case rel=>exact ⟨q+1,by omega,by go_num,Nat.le_refl _,af (fun y hy=>by
      rw [List.take_succ_eq_append_getElem hqx] at hy;rcases List.mem_append.1 hy with hy | hy
      ·exact HF.out y hy
      ·simp at hy;rw [hy,<-HS.out];exact HD.out),rfl⟩
    | false =>
     have HVA:Hid (∀ W,Calls Tryz.prog 222 #[.int .i64 s] W fun e w'=>e=.returned (.bool false)/\W=w'):=af fun W=>by have:=pH s W;rwa [hd] at this
     have HD:=af (of_decide_eq_false hd)
     have HER:Hid (dg xs=3):=af (by
      unfold dg;rw [if_neg (by have:=HM.out;omega),if_neg];intro h;exact HD.out (lJ.1 h s (by rw [HS.out];exact List.getElem_mem _)))
     clear hd hs;go_wp2_with (go_at_call 222;refine (HVA.out _).mono ?_;rintro e w' ⟨rfl,rfl⟩);go_ret;exact ⟨by rw [HER.out];rfl,rfl⟩
   ·have HE0:Hid (dg xs=0):=af (by
     have hf:=HF.out;rw [List.take_of_length_le (by have:=HM.out;omega)] at hf;unfold dg;rw [if_neg (by have:=HM.out;omega),if_pos (lJ.2 hf)])
    have hqi:¬ (q:Int)<(m:Int):=by omega
    go_wp2;go_ret;exact ⟨by rw [HE0.out];rfl,rfl⟩
 ·have hl1:(1024:Int)<(m:Int):=by omega
  have HER:Hid (dg xs=4):=af (by unfold dg;rw [if_pos (by have:=HM.out;omega)]);go_enter Tryz.func157,Tryz.ntmps157;go_wp2;go_ret;exact ⟨by rw [HER.out];rfl,rfl⟩
theorem rI (va:Value) (xs:List Int) (w:World) (hv:am w va xs) :
  Calls Tryz.prog 99 #[va] w fun e w'=>e=.returned (.int .i64 (c_ xs))/\ag w w':=by
 have HL:Hid (Calls Tryz.prog 157 #[va] w fun e w'=>e=.returned (.int .i64 (dg xs))/\w=w'):=af (Bl va xs w hv);have HV:=af hv;obtain ⟨a,c,hva,_⟩:=id hv;subst hva;obtain ⟨m,hm⟩:∃ m,m=xs.length:=⟨_,rfl⟩;rw [<-hm] at HL HV⊢;have HM:=af hm;clear hm hv;rcases Nat.eq_zero_or_pos (dg xs) with he | he
 ·obtain ⟨hl,hok⟩:=ue he;obtain ⟨hxs,hmk⟩:=lF hok;have hchk:c_ xs=if aC xs≠aQ (aC xs) then 13 else if aC xs≠aP (aC xs) then 2 else 0:=by unfold c_;rw [if_neg (by omega)]
  rw [hchk];obtain ⟨ns,hns⟩:∃ ns,ns=aC xs:=⟨_,rfl⟩;rw [<-hns] at hxs hmk⊢;have hlm:m=ns.length:=by rw [HM.out,hns];unfold aC;rw [List.length_map]
  have HVS:Hid (aH w (.slice a m c) ns):=af ⟨by rw [<-hxs];exact HV.out,hmk⟩;have hnl:ns.length<=1024:=by rw [<-hlm,HM.out];exact hl
  rw [he] at HL;have HL0:Hid (Calls Tryz.prog 157 #[.slice a m c] w fun e w'=>e=.returned (.int .i64 0)/\w=w'):=af HL.out
  have HS:Hid (Calls Tryz.prog 107 #[.slice a m c] w fun e w'=>(∃ v',e=.returned v'/\am w' v' (aL (aQ ns)))/\ag w w'):=af (by
   refine (qI ns.length ns _ w (Nat.le_refl _) HVS.out (by omega)).mono ?_;rintro e w' ⟨⟨v',h1,h2⟩,h3⟩;exact ⟨⟨v',h1,h2.sets.1⟩,h3⟩)
  have HMN:Hid (∀ W,ag w W->Calls Tryz.prog 159 #[.slice a m c] W fun e w'=>(∃ v',e=.returned v'/\am w' v' (aL (aP ns)))/\ag W w'):=af fun W hk=>by
   refine (ya ns _ W (HVS.out.kept hk) (by omega)).mono ?_;rintro e w' ⟨⟨v',h1,h2⟩,h3⟩;exact ⟨⟨v',h1,h2.sets.1⟩,h3⟩
  have HIN:Hid (∀ W vb l b,decide (ns=l)=b->ag w W->am W vb (aL l)->Calls Tryz.prog 158 #[.slice a m c,vb] W fun e w'=>e=.returned (.bool b)/\ag W w'):=af fun W vb l b hb hk hv=>by
   have h:=Cw (aL ns) (aL l) (.slice a m c) vb W (HVS.out.kept hk).1 hv;rw [show decide (aL ns=aL l)=b by rw [<-hb];exact decide_eq_decide.2 xb] at h;exact h
  clear hxs hmk hns hl hok he hchk hlm hnl HL;by_cases h1:ns=aQ ns
  ·have D1:Hid (decide (ns=aQ ns)=true):=af (decide_eq_true h1);rw [if_neg (fun h=>h h1)];by_cases h2:ns=aP ns
   ·have D2:Hid (decide (ns=aP ns)=true):=af (decide_eq_true h2);rw [if_neg (fun h=>h h2)];clear h1 h2;go_enter Tryz.func99,Tryz.ntmps99
    go_wp2_with (first
     | (go_at_call 157;refine HL0.out.mono ?_;rintro e w1 ⟨rfl,rfl⟩)
     | (go_at_call 107;refine HS.out.mono ?_;rintro e w2 ⟨⟨v2,rfl,hv2⟩,hk2⟩;have HV2:=af hv2;have K2:=af hk2;clear hv2 hk2)
     | (go_at_call 158;(with_reducible refine (HIN.out _ _ _ _ D2.out K4.out HV4.out).mono ?_);rintro e w5 ⟨rfl,hk5⟩;have K5:=af (K4.out.trans hk5);clear hk5)
     | (go_at_call 158;(with_reducible refine (HIN.out _ _ _ _ D1.out K2.out HV2.out).mono ?_);rintro e w3 ⟨rfl,hk3⟩;have K3:=af (K2.out.trans hk3);clear hk3)
     | (go_at_call 159;refine (HMN.out _ K3.out).mono ?_;rintro e w4 ⟨⟨v4,rfl,hv4⟩,hk4⟩;have HV4:=af hv4;have K4:=af (K3.out.trans hk4);clear hk4 hv4))
    go_ret;exact ⟨rfl,K5.out⟩
   ·have D2:Hid (decide (ns=aP ns)=false):=af (decide_eq_false h2);rw [if_pos h2];clear h1 h2;go_enter Tryz.func99,Tryz.ntmps99
    go_wp2_with (first
     | (go_at_call 157;refine HL0.out.mono ?_;rintro e w1 ⟨rfl,rfl⟩)
     | (go_at_call 107;refine HS.out.mono ?_;rintro e w2 ⟨⟨v2,rfl,hv2⟩,hk2⟩;have HV2:=af hv2;have K2:=af hk2;clear hv2 hk2)
     | (go_at_call 158;(with_reducible refine (HIN.out _ _ _ _ D2.out K4.out HV4.out).mono ?_);rintro e w5 ⟨rfl,hk5⟩;have K5:=af (K4.out.trans hk5);clear hk5)
     | (go_at_call 158;(with_reducible refine (HIN.out _ _ _ _ D1.out K2.out HV2.out).mono ?_);rintro e w3 ⟨rfl,hk3⟩;have K3:=af (K2.out.trans hk3);clear hk3)
     | (go_at_call 159;refine (HMN.out _ K3.out).mono ?_;rintro e w4 ⟨⟨v4,rfl,hv4⟩,hk4⟩;have HV4:=af hv4;have K4:=af (K3.out.trans hk4);clear hk4 hv4))
    go_ret;exact ⟨rfl,K5.out⟩
  ·have D1:Hid (decide (ns=aQ ns)=false):=af (decide_eq_false h1);rw [if_pos h1];clear h1;go_enter Tryz.func99,Tryz.ntmps99
   go_wp2_with (first
    | (go_at_call 157;refine HL0.out.mono ?_;rintro e w1 ⟨rfl,rfl⟩)
    | (go_at_call 107;refine HS.out.mono ?_;rintro e w2 ⟨⟨v2,rfl,hv2⟩,hk2⟩;have HV2:=af hv2;have K2:=af hk2;clear hv2 hk2)
    | (go_at_call 158;(with_reducible refine (HIN.out _ _ _ _ D1.out K2.out HV2.out).mono ?_);rintro e w3 ⟨rfl,hk3⟩;have K3:=af (K2.out.trans hk3);clear hk3))
   go_ret;exact ⟨rfl,K3.out⟩
 ·have hchk:c_ xs=dg xs:=by unfold c_;rw [if_pos (by omega)]
  rw [hchk];obtain ⟨q,hq⟩:∃ q,q=dg xs:=⟨_,rfl⟩;rw [<-hq] at HL he⊢;have hq0:((q:Int) != 0)=true:=by simp [bne];omega
  have hq1:((q:Int) == 0)=false:=by simp;omega
  clear hchk hq he;go_enter Tryz.func99,Tryz.ntmps99;go_wp2_with fail;refine HL.out.mono ?_;rintro e w1 ⟨rfl,rfl⟩;go_wp2;go_ret;exact ⟨rfl,ag.refl _⟩
def EM (ss:List Nat) (ps:List Rw):Nat->Rat
 | 0=>0
 | k+1=>EM ss ps k+cF (ss.getD k 0) ps ps.length
def Fr (xs ys:List Int) (ps:List Rw):Nat × Rat :=
 if c_ xs≠0 then (c_ xs,0) else if c_ ys≠0 then (c_ ys,0) else if (aC ys).any (fun s=>decide ((ps.length:Int)<=jE s))=true then (11,0) else if cK ps=true then (3,0) else (0,EM (aC ys) ps (aC ys).length)
theorem tY {xs:List Int} (h:c_ xs=0):xs.length<=1024/\DS xs=true:=by
 unfold c_ at h;by_cases he:dg xs=0
 ·exact ue he
 ·rw [if_pos he] at h;exact absurd h he
theorem pO (xs:List Nat) (va vb:Value) (w:World) (ha:WdsAt w va xs) (hb:WdsAt w vb xs) :
  Calls Tryz.prog 55 #[va,vb] w fun e w'=>e=.returned (.bool true)/\ag w w':=by
 have HA:=af ha;have HB:=af hb;have hl:=ha.len;obtain ⟨a0,c0,rfl⟩:=ha.shape;obtain ⟨a1,c1,rfl⟩:=hb.shape;obtain ⟨n,hn⟩:∃ n,n=xs.length:=⟨_,rfl⟩;rw [<-hn] at HA HB hl⊢;have HN:=af hn;clear ha hb hn;go_enter Tryz.func55,Tryz.ntmps55;go_wp2;go_loopg [13] n (fun kx s13 wr=>∃ k:Nat,k<=n/\s13=.int .i64 k/\n - k<=kx/\Hid (ag w wr))
 case atStart=>exact ⟨0,Nat.zero_le _,rfl,by omega,af (ag.refl _)⟩
 case round =>
  obtain ⟨k,hk,rfl,hkx,HK⟩:=hrel;by_cases hlt:k<n
  ·have hkl:k<xs.length:=by have:=HN.out;omega
   obtain ⟨b1,o1,rfl,h1⟩:=HA.out.get k hkl;obtain ⟨b2,o2,rfl,h2⟩:=HB.out.get k hkl;have c1':=HK.out.cell h1;have c2':=HK.out.cell h2;generalize xs.getD k 0=x at *;have hki:(k:Int)<(n:Int):=by omega
   have e1:((x:Int) == (x:Int))=true:=by simp
   have e2:((x:Int) != (x:Int))=false:=by simp
   clear h1 h2 hkl;go_wp2;go_quiet (fail);go_wp2;go_roundg (n - (k+1))
   case measure=>omega
   case rel=>exact ⟨k+1,by omega,by go_num,Nat.le_refl _,af (HK.out.drewN _)⟩
  ·have hki:¬ (k:Int)<(n:Int):=by omega
   go_wp2;go_ret;exact ⟨rfl,HK.out⟩
theorem lM (va vb:Value) (r:Rw) (w:World) (ha:RatAt w va r) (hb:RatAt w vb r) :
  Calls Tryz.prog 18 #[va,vb] w fun e w'=>e=.returned (.bool true)/\ag w w':=by
 obtain ⟨u1,u2,rfl,h1,h2⟩:=ha;obtain ⟨u3,u4,rfl,h3,h4⟩:=hb;have HW1:=af (fun W (hk:ag w W)=>pO r.num u1 u3 W (h1.kept hk) (h3.kept hk));have HW2:=af (fun W (hk:ag w W)=>pO r.den u2 u4 W (h2.kept hk) (h4.kept hk));obtain ⟨a1,c1,rfl⟩:=h1.shape;obtain ⟨a2,c2,rfl⟩:=h2.shape;obtain ⟨a3,c3,rfl⟩:=h3.shape;obtain ⟨a4,c4,rfl⟩:=h4.shape;generalize r.num.length=n1 at *;generalize r.den.length=n2 at *;generalize r.neg=neg at *;obtain ⟨w2,hw2⟩:∃ w2,w2=(w.alloc (.cells #[.bool neg,.slice a1 n1 c1,.slice a2 n2 c2] 29)).alloc (.cells #[.bool neg,.slice a3 n1 c3,.slice a4 n2 c4] 29):=⟨_,rfl⟩;have HK0:Hid (ag w w2):=af (by rw [hw2];exact ((ag.refl w).alloc _).alloc _);have p:=(aj.made w #[.bool neg,.slice a1 n1 c1,.slice a2 n2 c2] 29).kept ((ag.refl _).alloc (.cells #[.bool neg,.slice a3 n1 c3,.slice a4 n2 c4] 29));have q:=aj.made (w.alloc (.cells #[.bool neg,.slice a1 n1 c1,.slice a2 n2 c2] 29)) #[.bool neg,.slice a3 n1 c3,.slice a4 n2 c4] 29;rw [World.size_alloc] at q;rw [<-hw2] at p q;have p0:=p.cell (i:=0) (by simp);have p1:=p.cell (i:=1) (by simp);have p2:=p.cell (i:=2) (by simp);have q0:=q.cell (i:=0) (by simp);have q1:=q.cell (i:=1) (by simp);have q2:=q.cell (i:=2) (by simp);simp only [List.getElem_cons_succ,List.getElem_cons_zero] at p0 p1 p2 q0 q1 q2;have HW:=af hw2;clear h1 h2 h3 h4 hw2 p q;go_enter Tryz.func18,Tryz.ntmps18
 go_wp2_with fail;rw [<-HW.out];refine (HW1.out _ HK0.out).mono ?_;rintro e w3 ⟨rfl,hk3⟩;have r2:=hk3.cell p2;have s2:=hk3.cell q2;have HK3:=af (HK0.out.trans hk3);clear hk3;go_wp2_with fail;refine (HW2.out _ HK3.out).mono ?_;rintro e w4 ⟨rfl,hk4⟩;have HK4:=af (HK3.out.trans hk4);clear hk4;go_wp2;go_ret;exact ⟨rfl,HK4.out⟩
def Dm (y n:Nat):List Nat->List (Nat × Nat)
 | []=>[]
 | i :: is=>(y,n ||| 2^i) :: Dm (y ||| 2^i) n is
def ED (c:Nat × Nat) (s:Nat):List (Nat × Nat):=if s &&& c.2≠0 then [c] else Dm c.1 c.2 (dG (bk s c.1))
def Dv (l:List (Nat × Nat)) (s:Nat):List (Nat × Nat):=l.flatMap fun c=>ED c s
def EH (most:Nat):List Nat->List (Nat × Nat)->Option (List (Nat × Nat))
 | [],l=>some l
 | b :: bs,l=>if most<(Dv l b).length then none else EH most bs (Dv l b)
def zT (pre:List Nat) (out:List (Nat × Nat)):List Nat->Option (List (Nat × Nat))
 | []=>some out
 | s :: r=>match EH (1024 - out.length) pre [(s,0)] with
  | none=>none
  | some l=>zT (pre++[s]) (out++l) r
def DH (L:List Nat):Option (List (Nat × Nat)):=zT [] [] L
def FP (c:Nat × Nat) (s:Nat):Bool:=aZ c.1 s&&(c.2 &&& s == 0)
def Ga (l:List (Nat × Nat)) (s:Nat):Nat:=(l.filter fun c=>FP c s).length
def FC (c:Nat × Nat):Prop:=c.1<16777216/\c.2<16777216/\c.1 &&& c.2=0
def EE (a b:Nat × Nat):Bool:=a.1 &&& b.2 == 0&&a.2 &&& b.1 == 0
def EX (q:Nat->Rat):Nat->(Nat->Rat)->Rat
 | 0,F=>F 0
 | n+1,F=>q n*EX q n (fun s=>F (s+2^n))+(1 - q n)*EX q n F
def ind (b:Bool):Rat:=if b=true then 1 else 0
def Fo (c:Nat × Nat) (n s:Nat):Bool:=(List.range n).all fun i=>(!c.1.testBit i||s.testBit i)&&(!c.2.testBit i||!s.testBit i)
def wQ (q:Nat->Rat) (c:Nat × Nat):Nat->Rat
 | 0=>1
 | n+1=>(wQ q c n*if c.1.testBit n=true then q n else 1)*if c.2.testBit n=true then 1 - q n else 1
def Fg (q:Nat->Rat) (n:Nat) (l:List (Nat × Nat)):Rat:=l.foldl (fun a c=>a+wQ q c n) 0
def FA (q:Nat->Rat) (s:Nat):Nat->Rat
 | 0=>1
 | n+1=>FA q s n*if s.testBit n=true then q n else 1 - q n
def BF (F:Nat->Rat):Nat->Rat
 | 0=>0
 | n+1=>BF F n+F n
def ES:Nat->Nat->Nat
 | _,0=>1
 | 0,_+1=>0
 | n+1,k+1=>ES n k+ES n (k+1)
def pQ (q:Nat->Rat) (n c:Nat):Rat:=wQ q (c,0) n
def xU (q:Nat->Rat) (n:Nat):List Nat->Nat->Nat->Rat
 | _,0,c=>pQ q n c
 | [],_+1,_=>0
 | s :: l,k+1,c=>xU q n l k (c ||| s)+xU q n l (k+1) c
def Em (l:List Nat) (ch:Nat):Nat->Nat
 | 0=>0
 | n+1=>if ch.testBit n=true then Em l ch n ||| l.getD n 0 else Em l ch n
def EL (q:Nat->Rat) (n:Nat) (l:List Nat) (k m:Nat):Rat:=BF (fun ch=>if pc ch=k then pQ q n (Em l ch l.length) else 0) m
def FL (l:List Nat) (s:Nat):Nat:=(l.filter fun t=>aZ t s).length
def Ex (N:Nat):Nat->Rat
 | 0=>0
 | k+1=>if (k+1) % 2=1 then Ex N k+((ES N (k+1):Nat):Rat) else Ex N k - ((ES N (k+1):Nat):Rat)
def zC (q:Nat->Rat) (n:Nat) (l:List Nat):Nat->Rat
 | 0=>0
 | k+1=>if (k+1) % 2=1 then zC q n l k+xU q n l (k+1) 0 else zC q n l k - xU q n l (k+1) 0
def gb (a b:Rat):Rat:=if b<=a then a else b
def gJ (a b:Rat):Rat:=if a<=b then a else b
def zM (q:Nat->Rat) (n:Nat) (l:List Nat):Nat->Rat
 | 0=>0
 | k+1=>if (k+1) % 2=0 then gb (zM q n l k) (zC q n l (k+1)) else zM q n l k
def zL (q:Nat->Rat) (n:Nat) (l:List Nat):Nat->Rat
 | 0=>1
 | k+1=>if (k+1) % 2=0 then zL q n l k else gJ (zL q n l k) (zC q n l (k+1))
def tV (c:Int × Int):List Value:=[.int .i64 c.1,.int .i64 c.2]
abbrev FN (c:Int × Int):Value:=.agg #[.int .i64 c.1,.int .i64 c.2]
def FU (c:Nat × Nat):Int × Int:=((c.1:Int),(c.2:Int))
def FV (l:List (Nat × Nat)):List (Int × Int):=l.map FU
def Fl (w:World) (v:Value) (L:List (Int × Int)):Prop :=
 ∃ (a:Option Addr) (c:Nat),v=.slice a L.length c/\(L.length<=c/\(a=none->c=0))/\L.length<=1099511627776 /\
  ∀ i (h:i<L.length),∃ b o,a=some ⟨b,o,none⟩/\w.rangeAt b (o+i*2) (tV L[i])
def EY (w:World) (B:Nat) (v:Value) (L:List (Int × Int)):Prop :=
 w.ownsRow B 114 2 v L.length (L.flatMap tV)/\L.length<=1099511627776
def nJ (u:Value):Prop:=∀ x,u≠.int .u32 x
def qb (w:World) (g:Nat):Prop:=∀ cur e fr,w.heap[g]?=some (.cells cur e fr)->∀ u∈cur.toList,nJ u
theorem ry {w:World} {g:Nat} {cur:Array Value} {e:TypeId} {fr:Nat × Nat} (h:w.heap[g]?=some (.cells cur e fr)) (hc:∀ u∈cur.toList,nJ u):qb w g:=by
 intro c e2 f2 h2;rw [h] at h2;cases h2;exact hc
theorem CL (w:World) (cs:Array Value) (e:TypeId) (hc:∀ u∈cs.toList,nJ u):qb (w.alloc (.cells cs e)) w.heap.size:=ry (heap_alloc_new w _) hc
theorem qb.same {w w':World} {g:Nat} (h:qb w g) (hk:w'.heap[g]?=w.heap[g]?):qb w' g:=fun cur e fr h2=>h cur e fr (by rw [<-hk];exact h2)
theorem qb.cell {w:World} {g i:Nat} {u:Value} (h:qb w g) (hc:w.cell? ⟨g,i,none⟩=some u):nJ u:=by
 simp only [World.cell?] at hc;cases hg:w.heap[g]? with
 | none=>rw [hg] at hc;simp at hc
 | some o =>
  cases o with
  | cells cur e fr =>
   rw [hg] at hc;simp only at hc
   exact h cur e fr hg u (by
    have:=Array.getElem?_eq_some_iff.1 hc;obtain ⟨h1,h2⟩:=this;rw [<-h2];exact Array.mem_toList_iff.2 (Array.getElem_mem h1))
  | _=>rw [hg] at hc;simp at hc
theorem kj {z:Array Value} {n:Nat} {u:Value} (h:u∈(Builtin.zeroCells z n).toList):u∈z.toList:=by
 unfold Builtin.zeroCells at h;simp at h;obtain ⟨k,hk,e⟩:=h
 have hz:0<z.size:=by
  rcases Nat.eq_zero_or_pos z.size with h0 | h0
  ·rw [h0] at hk;omega
  ·exact h0
 have hlt:k % z.size<z.size:=Nat.mod_lt _ hz;rw [<-e,getElem!_pos z _ hlt];exact Array.mem_toList_iff.2 (Array.getElem_mem hlt)
theorem pF {P:Program} (w:World) (base:Nat) (t ty e:TypeId) (i:TypeInfo) (z:Value) (size bytes:Nat) (ht:P.underlying t=some (.slice e)) (hi:P.info? e=some i) (hz:i.zero=some z)
  (hsize:i.size=size) (hby:i.bytes=bytes) (hzs:z.cells.size=size) (hsz:0<size)
  (v:Value) (n:Nat) (xs:List Value) (hown:w.ownsRow base e size v n xs)
  (a:Addr) (m c:Nat) (news:List Value) (hl:news.length=m*size) (hnews:∀ j u,news[j]?=some u->w.cell? (a.add j)=some u) (h1:∀ u∈news,u.oneCell'=true)
  (h63:n+m<=maxLen) (hbytes:(n+m)*bytes<=140737488355328) (hbase:base<=w.heap.size)
  (hno:∀ g,v.ownBlock=some g->qb w g) (hnw:∀ u∈news,nJ u) (hzw:∀ u∈z.cells.toList,nJ u) :
  ∃ v' w',(Builtin.append_ #[t,t] ty #[v,.slice (some a) m c]).run P w=.ok v' w'/\w'.ownsRow base e size v' (n+m) (xs++news)/\w.grownBy w' v.ownBlock/\∀ g,v'.ownBlock=some g->qb w' g:=by
 obtain ⟨v',w',hr,h2,h3,h4⟩:=run_append_own (P:=P) w base t ty e i z size bytes ht hi hz hsize hby hzs hsz v n xs hown a m c news hl hnews h1 h63 hbytes hbase;refine ⟨v',w',hr,h2,h3,?_⟩;subst hsize;subst hby
 have hsmall:n+m<=9223372036854775807:=by simp only [maxLen] at h63;omega
 intro k hk;rcases hown.2 with ⟨rfl,rfl⟩ | ⟨g,cap,cur,rfl,hbg,hg,hnc,hcm,hcs,htake⟩
 ·have hx:xs=[]:=List.eq_nil_of_length_eq_zero (by simpa using hown.1);subst hx;by_cases hm:m=0
  ·subst hm;have:=h4.2 ⟨rfl,rfl⟩;subst this;simp [Value.ownBlock] at hk
  ·have hr2:=run_append_nil (P:=P) w t ty e i z ht hi hz a m c news hl hnews (by omega) (by omega) (by have hb:=hbytes;simp only [Nat.zero_add] at hb;omega);have e1:=hr.symm.trans hr2;injection e1 with e2 e3
   subst e2 e3;simp only [Value.ownBlock,Option.some.injEq] at hk;subst hk;refine ry (cur:=news.toArray++Builtin.zeroCells z.cells (grownCap w m 0 e - m)) (e:=e) (fr:=(0,0)) (by have:=heap_alloc_new w.drew (.cells (news.toArray++Builtin.zeroCells z.cells (grownCap w m 0 e - m)) e);exact this) fun u hu=>?_
   rw [Array.toList_append] at hu;rcases List.mem_append.1 hu with hu | hu
   ·exact hnw u (by simpa using hu)
   ·exact hzw u (kj hu)
 ·have hno2:=hno g (by simp [Value.ownBlock]) cur e (0,0) hg;by_cases hroom:n+m<=cap
  ·have hfit:n*i.size+news.length<=cur.size:=by rw [hl,hcs,<-Nat.add_mul];exact Nat.mul_le_mul_right _ hroom
   have hr2:=run_append_room (P:=P) w t ty e i ht hi g n cap cur hg a m c news hl hnews h1 hroom hfit;have e1:=hr.symm.trans hr2;injection e1 with e2 e3
   subst e2 e3;simp only [Value.ownBlock,Option.some.injEq] at hk;subst hk;refine ry (setRow_heap w g cur _ e _ hg) fun u hu=>?_
   rcases List.mem_append.1 hu with hu | hu
   ·rcases List.mem_append.1 hu with hu | hu
    ·exact hno2 u (List.mem_of_mem_take hu)
    ·exact hnw u hu
   ·exact hno2 u (List.mem_of_mem_drop hu)
  ·have holds:∀ j u,xs[j]?=some u->w.cell? ((⟨g,0,none⟩:Addr).add j)=some u:=hown.cells (g:=g) rfl;have hr2:=run_append_grow (P:=P) w t ty e i z ht hi hz ⟨g,0,none⟩ n cap xs hown.1 holds a m c news hl hnews (by omega) (by omega) (growslice_fits (by omega) hbytes);have e1:=hr.symm.trans hr2;injection e1 with e2 e3
   subst e2 e3;simp only [Value.ownBlock,Option.some.injEq] at hk;subst hk;refine ry (heap_alloc_new w.drew _) fun u hu=>?_
   rw [Array.toList_append,Array.toList_append] at hu;rcases List.mem_append.1 hu with hu | hu
   ·rcases List.mem_append.1 hu with hu | hu
    ·have hu:u∈xs:=by simpa using hu
     rw [<-htake] at hu;exact hno2 u (List.mem_of_mem_take hu)
    ·exact hnw u (by simpa using hu)
   ·exact hzw u (kj hu)
theorem fP {P:Program} {o:Oper} {a:Act} {K:Act->World->Prop} {Q:Exit->Act->World->Prop} (w:World) (s x:Operand) (t:TypeId)
  (ho:o.op=.call { callee:=.builtin .append,args:=#[s,x],argTypes:=#[t,t] })
  (base:Nat) (e:TypeId) (i:TypeInfo) (z:Value) (size bytes:Nat) (ht:P.underlying t=some (.slice e)) (hi:P.info? e=some i) (hz:i.zero=some z)
  (hsize:i.size=size) (hby:i.bytes=bytes) (hzs:z.cells.size=size) (hsz:0<size)
  (v:Value) (n:Nat) (xs:List Value) (hs:a.eval s=v) (hown:w.ownsRow base e size v n xs)
  (ad:Addr) (m c:Nat) (news:List Value) (hx:a.eval x=.slice (some ad) m c) (hl:news.length=m*size) (hnews:∀ j u,news[j]?=some u->w.cell? (ad.add j)=some u) (h1:∀ u∈news,u.oneCell'=true)
  (h63:n+m<=maxLen) (hbytes:(n+m)*bytes<=140737488355328) (hbase:base<=w.heap.size)
  (hno:∀ g,v.ownBlock=some g->qb w g) (hnw:∀ u∈news,nJ u) (hzw:∀ u∈z.cells.toList,nJ u)
  (h:∀ v' w',w'.ownsRow base e size v' (n+m) (xs++news)->w.grownBy w' v.ownBlock->(∀ g,v'.ownBlock=some g->qb w' g)->K (a.put o.dst v') w'):o.wp P a w K Q:=by
 obtain ⟨v',w',hr,h2,h3,h4⟩:=pF (P:=P) w base t o.type e i z size bytes ht hi hz hsize hby hzs hsz v n xs hown ad m c news hl hnews h1 h63 hbytes hbase hno hnw hzw;unfold Oper.wp execOp;simp only [ho,resolve,invoke,builtin,Sem.run_bind,Sem.run_pure,Result.andThen_ok,List.map_toArray,List.map_cons,List.map_nil,hs,hx,hr];exact h v' w' h2 h3 h4
theorem WdsAt.only {w w':World} {g:Option Nat} {v:Value} {xs:List Nat} (h:WdsAt w v xs) (hr:∀ k,g=some k->qb w k) (ho:∀ k,k<w.heap.size->some k≠g->w'.heap[k]?=w.heap[k]?):WdsAt w' v xs:=by
 obtain ⟨a,c,h1,h2,h3,h4,h5⟩:=h;refine ⟨a,c,h1,h2,h3,h4,fun i hi=>?_⟩;obtain ⟨b,o,h6,h7⟩:=h5 i hi;refine ⟨b,o,h6,?_⟩;have hne:some b≠g:=fun e=>(hr b e.symm).cell h7 _ rfl
 have hlt:b<w.heap.size:=by
  rcases Nat.lt_or_ge b w.heap.size with h8 | h8
  ·exact h8
  ·simp [World.cell?,Array.getElem?_eq_none h8] at h7
 have:=ho b hlt hne;simp only [World.cell?,this] at h7⊢;exact h7
abbrev rY:=Rw × Value × Value
def kp (x:rY):List Value:=[.bool x.1.neg,x.2.1,x.2.2]
def h_ (w:World) (x:rY):Prop:=WdsAt w x.2.1 x.1.num/\WdsAt w x.2.2 x.1.den
theorem h_.kept {w w':World} {x:rY} (h:h_ w x) (hk:ag w w'):h_ w' x:=⟨h.1.kept hk,h.2.kept hk⟩
theorem h_.only {w w':World} {g:Option Nat} {x:rY} (h:h_ w x) (hr:∀ k,g=some k->qb w k) (ho:∀ k,k<w.heap.size->some k≠g->w'.heap[k]?=w.heap[k]?):h_ w' x:=⟨h.1.only hr ho,h.2.only hr ho⟩
def OwnRats (w:World) (B:Nat) (v:Value) (rs:List Rw):Prop :=
 ∃ L:List rY,L.map Prod.fst=rs/\w.ownsRow B 29 3 v L.length (L.flatMap kp)/\L.length<=1099511627776/\(∀ g,v.ownBlock=some g->qb w g)/\∀ x∈L,h_ w x
theorem AE {w w':World} {B n:Nat} {e:TypeId} {s:Nat} {v:Value} {xs:List Value} (h:w.ownsRow B e s v n xs) (hn:∀ g,v.ownBlock=some g->qb w g) (hk:ag w w'):∀ g,v.ownBlock=some g->qb w' g :=
 fun g hg=>(hn g hg).same (hk.block g (h.lt g hg).2)
theorem OwnRats.kept {w w':World} {B:Nat} {v:Value} {rs:List Rw} (h:OwnRats w B v rs) (hk:ag w w'):OwnRats w' B v rs:=by
 obtain ⟨L,h1,h2,h3,h4,h5⟩:=h;exact ⟨L,h1,fb h2 hk,h3,AE h2 h4 hk,fun x hx=>(h5 x hx).kept hk⟩
theorem OwnRats.nil (w:World) (B:Nat):OwnRats w B (.slice none 0 0) []:=⟨[],rfl,World.ownsRow_nil _ _ _ _,by simp,fun g hg=>by simp [Value.ownBlock] at hg,fun x hx=>by cases hx⟩
theorem DO (L:List rY):(L.flatMap kp).length=L.length*3:=by
 induction L with
 | nil=>rfl
 | cons c L ih=>simp [kp,ih];omega
theorem Bu (L:List rY):∀ i (h:i<L.length) j,j<3->(L.flatMap kp)[i*3+j]?=(kp L[i])[j]?:=by
 induction L with
 | nil=>intro i h;simp at h
 | cons c L ih =>
  intro i h j hj;rw [List.flatMap_cons];cases i with
  | zero=>rw [List.getElem?_append_left (by simp [kp];omega)];simp
  | succ i =>
   rw [List.getElem?_append_right (by simp [kp];omega),show (kp c).length=3 from rfl,show (i+1)*3+j - 3=i*3+j by omega];exact ih i (by simpa using h) j hj
theorem WdsAt.cell1 {w:World} {v:Value} {xs:List Nat} (h:WdsAt w v xs):v.oneCell'=true/\nJ v:=by
 obtain ⟨a,c,rfl⟩:=h.shape;exact ⟨rfl,fun x h=>by cases h⟩
theorem vA {w:World} {L:List rY} (h:∀ x∈L,h_ w x):∀ u∈L.flatMap kp,u.oneCell'=true/\nJ u:=fun u hu=>by
 obtain ⟨c,hc,h2⟩:=List.mem_flatMap.1 hu;simp [kp] at h2;rcases h2 with rfl | rfl | rfl
 ·exact ⟨rfl,fun x h=>by cases h⟩
 ·exact (h c hc).1.cell1
 ·exact (h c hc).2.cell1
theorem OwnRats.at {w:World} {B:Nat} {v:Value} {rs:List Rw} (h:OwnRats w B v rs):RatsAt w v rs:=by
 obtain ⟨L,rfl,⟨h1,h2⟩,h3,_,h5⟩:=h;have hl:(L.map Prod.fst).length=L.length:=List.length_map ..;rcases h2 with ⟨rfl,h6⟩ | ⟨g,cap,cur,rfl,h6,h7,h8,h9,h10,h11⟩
 ·have:L=[]:=List.eq_nil_of_length_eq_zero h6
  subst this;exact ⟨none,0,rfl,⟨by simp,fun _=>rfl⟩,by simp,fun i h=>by simp at h⟩
 ·refine ⟨some ⟨g,0,none⟩,cap,by rw [hl],⟨by rw [hl];exact h8,fun h=>by cases h⟩,by rw [hl];omega,fun i hi=>?_⟩;have hi':i<L.length:=by rw [hl] at hi;exact hi
  refine ⟨g,0,L[i].2.1,L[i].2.2,rfl,fun j u hj=>?_,by rw [List.getElem_map];exact (h5 _ (List.getElem_mem hi')).1,by rw [List.getElem_map];exact (h5 _ (List.getElem_mem hi')).2⟩;rw [List.getElem_map] at hj
  have hj3:j<3:=by
   have:=(List.getElem?_eq_some_iff.1 hj).1;simpa using this
  have e1:(cur.toList.take (L.length*3))[i*3+j]?=(L.flatMap kp)[i*3+j]?:=by rw [h11]
  rw [List.getElem?_take_of_lt (by omega),Bu L i hi' j hj3] at e1;have e2:(kp L[i])[j]?=some u:=hj;rw [e2] at e1;simp only [World.cell?,h7,Nat.zero_add];simpa using e1
theorem oB:(Tryz.prog.info? 29).map (fun i=>(i.zero,i.size,i.bytes))=some (some (.agg #[.bool false,.slice none 0 0,.slice none 0 0]),3,56):=by kernel_rfl
theorem pP:∀ u∈(Value.agg #[.bool false,.slice none 0 0,.slice none 0 0]).cells.toList,nJ u:=fun u hu=>by
 have:u=.bool false\/u=.slice none 0 0\/u=.slice none 0 0:=by simpa [Value.cells] using hu
 rcases this with rfl | rfl | rfl <;> exact fun x h=>by cases h
theorem OwnRats.more {w w':World} {B:Nat} {v v':Value} {rs:List Rw} {L:List rY} (h1:L.map Prod.fst=rs) (h3:L.length<1099511627776) (_h2:w.ownsRow B 29 3 v L.length (L.flatMap kp)) (h4:∀ g,v.ownBlock=some g->qb w g) (h5:∀ x∈L,h_ w x) (x:rY) (hx:h_ w x)
  (h6:w'.ownsRow B 29 3 v' (L.length+1) (L.flatMap kp++kp x)) (h7:w.grownBy w' v.ownBlock) (h8:∀ g,v'.ownBlock=some g->qb w' g):OwnRats w' B v' (rs++[x.1]):=by
 refine ⟨L++[x],by rw [List.map_append,h1];rfl,?_,by simp;omega,h8,fun y hy=>?_⟩
 ·rw [List.length_append,List.flatMap_append];simpa using h6
 ·rcases List.mem_append.1 hy with hy | hy
  ·exact (h5 y hy).only h4 h7.block
  ·rw [List.mem_singleton] at hy;rw [hy];exact hx.only h4 h7.block
theorem EK {ops:Array Oper} {o:Oper} {a:Act} {K:Act->World->Prop} {Q:Exit->Act->World->Prop} {E:Prop} {w:World} (hgd:o.guard=none) (s x:Operand)
  (ho:o.op=.call { callee:=.builtin .append,args:=#[s,x],argTypes:=#[23,23] }) (B:Nat) (v:Value) (rs:List Rw) (hs:a.eval s=v) (hown:OwnRats w B v rs)
  (g:Nat) (r:Rw) (u1 u2:Value) (hx:a.eval x=.slice (some ⟨g,0,none⟩) 1 1) (hu:w.rangeAt g 0 [.bool r.neg,u1,u2]) (hw1:WdsAt w u1 r.num) (hw2:WdsAt w u2 r.den) (hl:rs.length<1099511627776) (hB:B<=w.heap.size)
  (h:∀ v' w',OwnRats w' B v' (rs++[r])->Below B w w'->K (a.put o.dst v') w'):if Region.wanted o (yielded ops a.tmps)=true then Oper.wp Tryz.prog o a w K Q else E:=by
 have hw:Region.wanted o (yielded ops a.tmps)=true:=by simp [Region.wanted,hgd]
 rw [if_pos hw];obtain ⟨i0,hi0,hz0,hz1,hz2⟩:=info_parts oB;obtain ⟨L,h1,h2,h3,h4,h5⟩:=hown;have hll:L.length=rs.length:=by rw [<-h1,List.length_map]
 have hok:h_ w (r,u1,u2):=⟨hw1,hw2⟩;have hone:=vA (L:=[(r,u1,u2)]) (w:=w) fun y hy=>by rw [List.mem_singleton] at hy;rw [hy];exact hok
 have hfl:([(r,u1,u2)]:List rY).flatMap kp=[.bool r.neg,u1,u2]:=rfl;rw [hfl] at hone;refine fP w s x 23 ho B 29 i0 _ 3 56 Tryz.underlying23 hi0 hz0 hz1 hz2 rfl (by decide) v L.length _ hs h2 ⟨g,0,none⟩ 1 1 [.bool r.neg,u1,u2] hx (by simp) ?_ (fun u hu=>(hone u hu).1) (by simp [maxLen];omega) (by omega) hB h4 (fun u hu=>(hone u hu).2) pP ?_
 ·intro j u hj;have:=hu j u hj;rw [show ({ block:=g,off:=0 }:Addr).add j=⟨g,0+j,none⟩ by unfold Addr.add;split <;> simp_all];exact this
 ·intro v' w' h6 h7 h8;exact h v' w' (OwnRats.more h1 (by omega) h2 h4 h5 (r,u1,u2) hok h6 h7 h8) (bf h7 h2 hB)
theorem qW {ops:Array Oper} {rest:List Oper} {o:Oper} {a:Act} {Q:Exit->Act->World->Prop} {w:World} (hgd:o.guard=none) (s x:Operand)
  (ho:o.op=.call { callee:=.builtin .append,args:=#[s,x],argTypes:=#[23,23] }) (B:Nat) (v:Value) (rs:List Rw) (hs:a.eval s=v) (hown:OwnRats w B v rs)
  (g:Nat) (r:Rw) (u1 u2:Value) (hx:a.eval x=.slice (some ⟨g,0,none⟩) 1 1) (hu:w.rangeAt g 0 [.bool r.neg,u1,u2]) (hw1:WdsAt w u1 r.num) (hw2:WdsAt w u2 r.den) (hl:rs.length<1099511627776) (hB:B<=w.heap.size)
  (h:∀ v' w',OwnRats w' B v' (rs++[r])->Below B w w'->wpList Tryz.prog ops Q rest (a.put o.dst v') w'):wpList Tryz.prog ops Q (o :: rest) a w:=by
 obtain ⟨i0,hi0,hz0,hz1,hz2⟩:=info_parts oB;obtain ⟨L,h1,h2,h3,h4,h5⟩:=hown;have hll:L.length=rs.length:=by rw [<-h1,List.length_map]
 have hok:h_ w (r,u1,u2):=⟨hw1,hw2⟩;have hone:=vA (L:=[(r,u1,u2)]) (w:=w) fun y hy=>by rw [List.mem_singleton] at hy;rw [hy];exact hok
 have hfl:([(r,u1,u2)]:List rY).flatMap kp=[.bool r.neg,u1,u2]:=rfl;rw [hfl] at hone;refine wpList_plain hgd fun _ hK=>fP w s x 23 ho B 29 i0 _ 3 56 Tryz.underlying23 hi0 hz0 hz1 hz2 rfl (by decide) v L.length _ hs h2 ⟨g,0,none⟩ 1 1 [.bool r.neg,u1,u2] hx (by simp) ?_ (fun u hu=>(hone u hu).1) (by simp [maxLen];omega) (by omega) hB h4 (fun u hu=>(hone u hu).2) pP ?_
 ·intro j u hj;have:=hu j u hj;rw [show ({ block:=g,off:=0 }:Addr).add j=⟨g,0+j,none⟩ by unfold Addr.add;split <;> simp_all];exact this
 ·intro v' w' h6 h7 h8;exact hK _ _ (h v' w' (OwnRats.more h1 (by omega) h2 h4 h5 (r,u1,u2) hok h6 h7 h8) (bf h7 h2 hB))
def Di (c:Int × Int):Nat:=if (0<=c.1/\c.1<16777216)/\0<=c.2/\c.2<16777216 then (if c.1.toNat &&& c.2.toNat≠0 then 6 else 0) else 3
def wO:List (Int × Int)->Nat
 | []=>0
 | c :: l=>if Di c≠0 then Di c else wO l
def DP (c:Int × Int):Nat × Nat:=(c.1.toNat,c.2.toNat)
def Fa (L:List (Int × Int)) (i m:Nat):Bool:=(List.range m).any fun j=>EE (DP (L.getD i default)) (DP (L.getD j default))
def Fb (L:List (Int × Int)) (m:Nat):Bool:=(List.range m).any fun i=>Fa L i i
def Ey (L:List (Int × Int)):Nat:=if 1024<L.length then 4 else if wO L≠0 then wO L else if Fb L L.length=true then 21 else 0
def jp (ps:List Rw) (i:Nat):Rat:=al (ps.getD i default)
def Gf (ps:List Rw) (c:Nat × Nat) (n:Nat):Rat:=wQ (jp ps) c n
def Du (ps:List Rw) (l:List (Nat × Nat)) (k:Nat):Rat:=Fg (jp ps) ps.length (l.take k)
def xT (xs:List Int) (ps:List Rw) (k:Int):Nat :=
 if c_ xs≠0 then c_ xs else if 12<xs.length then 4 else if (aC xs).any (fun s=>decide ((ps.length:Int)<=jE s))=true then 11 else if cK ps=true then 3 else if k<0\/12<k then 3 else 0
theorem xe (s:Nat) (ps:List Rw):∀ n,pQ (jp ps) n s=cF s ps n:=by
 intro n;induction n with
 | zero=>rfl
 | succ n ih =>
  rw [dR,<-ih];show (pQ (jp ps) n s*(if s.testBit n=true then jp ps n else 1))*(if (0:Nat).testBit n=true then 1 - jp ps n else 1)=_;have e:(if (0:Nat).testBit n=true then 1 - jp ps n else (1:Rat))=1:=if_neg (by simp);rw [e,Rat.mul_one];split
  ·rfl
  ·exact Rat.mul_one _
def Ff (ps:List Rw) (l:List Nat) (k m:Nat):Rat:=EL (jp ps) ps.length l k m
def EC (ps:List Rw) (l:List Nat) (k:Nat):Rat:=xU (jp ps) ps.length l k 0
def FQ (ps:List Rw) (l:List Nat) (k c:Nat):Rat:=xU (jp ps) ps.length l k c
def Dx (ps:List Rw) (l:List Nat) (k:Nat):Rat:=zC (jp ps) ps.length l k
theorem yV {r s:Rw} (hr:r.Ok) (hs:s.Ok) {k l:Nat} (h1:r.Short k) (h2:s.Short l) (hk:1<=k) (hl:1<=l):(ai (al r - al s)).Short (k+l+1):=by
 have h:=mO hr (dF (- al s)) h1 (dT hs h2 hl) hk hl;rw [ap,<-Rat.sub_eq_add_neg] at h;exact h
def Fu (ps:List Rw) (l:List Nat) (k:Nat):Rat:=zM (jp ps) ps.length l k
def Fq (ps:List Rw) (l:List Nat) (k:Nat):Rat:=zL (jp ps) ps.length l k
def ArrAt (w:World) (g:Nat) (e:TypeId) (rs:List Rw):Prop :=
 ∃ L:List rY,L.map Prod.fst=rs/\aj w g e (L.flatMap kp)/\bn w g (L.flatMap kp)/\∀ x∈L,h_ w x
theorem ArrAt.kept {w w':World} {g:Nat} {t:TypeId} {rs:List Rw} (h:ArrAt w g t rs) (hk:ag w w'):ArrAt w' g t rs:=by
 obtain ⟨L,h1,h2,h3,h4⟩:=h;exact ⟨L,h1,h2.kept hk,h3.kept hk,fun x hx=>(h4 x hx).kept hk⟩
theorem pI {w:World} {L:List rY} (h:∀ x∈L,h_ w x):∀ k x,Value.int k x ∉ L.flatMap kp:=by
 intro k x hx;obtain ⟨c,hc,h2⟩:=List.mem_flatMap.1 hx;obtain ⟨a1,c1,e1⟩:=(h c hc).1.shape;obtain ⟨a2,c2,e2⟩:=(h c hc).2.shape;simp [kp,e1,e2] at h2
theorem vB (L:List rY) (y:rY):∀ i,i<L.length->(L.set i y).flatMap kp=(((L.flatMap kp).set (i*3) (.bool y.1.neg)).set (i*3+1) y.2.1).set (i*3+2) y.2.2:=by
 induction L with
 | nil=>intro i h;simp at h
 | cons c L ih =>
  intro i h;cases i with
  | zero=>simp [kp]
  | succ i =>
   rw [List.set_cons_succ,List.flatMap_cons,List.flatMap_cons,ih i (by simpa using h)]
   have e:∀ (X Y:List Value) (j:Nat) (u:Value),X.length=3->(X++Y).set ((i+1)*3+j) u=X++Y.set (i*3+j) u:=fun X Y j u hX=>by
    rw [List.set_append_right _ _ (by omega),hX];congr 2;omega
   have e0:=fun (X Y:List Value) (u:Value) (hX:X.length=3)=>e X Y 0 u hX
   simp only [Nat.add_zero] at e0;rw [e0 _ _ _ rfl,e _ _ 1 _ rfl,e _ _ 2 _ rfl]
theorem ArrAt.store {w:World} {g:Nat} {t:TypeId} {rs:List Rw} (h:ArrAt w g t rs) (i:Nat) (hi:i<rs.length) {r:Rw} {u1 u2:Value} (h1:WdsAt w u1 r.num) (h2:WdsAt w u2 r.den) :
  ArrAt (((w.setCell ⟨g,i*3,none⟩ (.bool r.neg)).setCell ⟨g,i*3+1,none⟩ u1).setCell ⟨g,i*3+2,none⟩ u2) g t (rs.set i r):=by
 obtain ⟨L,e,h3,h4,h5⟩:=h;have hl:i<L.length:=by rw [<-e,List.length_map] at hi;exact hi
 have hO:=(((aw.refl g w).store (i*3) (.bool r.neg)).store (i*3+1) u1).store (i*3+2) u2;have hn:=pI h5;refine ⟨L.set i (r,u1,u2),by rw [List.map_set,e],?_,?_,fun x hx=>?_⟩
 ·rw [vB L (r,u1,u2) i hl];exact ((h3.store _ _).store _ _).store _ _
 ·rw [vB L (r,u1,u2) i hl];exact ((h4.store _ _).store _ _).store _ _
 ·rcases List.mem_or_eq_of_mem_set hx with hx | rfl
  ·exact ⟨(h5 x hx).1.apart h4 hn hO,(h5 x hx).2.apart h4 hn hO⟩
  ·exact ⟨h1.apart h4 hn hO,h2.apart h4 hn hO⟩
theorem ArrAt.at {w:World} {g:Nat} {t:TypeId} {rs:List Rw} (h:ArrAt w g t rs) (i:Nat) (hi:i<rs.length):∃ a1 c1 a2 c2,(w.cell? ⟨g,i*3,none⟩=some (.bool (rs.getD i default).neg)/\w.cell? ⟨g,i*3+1,none⟩=some (.slice a1 (rs.getD i default).num.length c1)/\w.cell? ⟨g,i*3+2,none⟩=some (.slice a2 (rs.getD i default).den.length c2))/\(∀ j,w.frozen? ⟨g,j,none⟩=false)/\g<w.heap.size/\WdsAt w (.slice a1 (rs.getD i default).num.length c1) (rs.getD i default).num/\WdsAt w (.slice a2 (rs.getD i default).den.length c2) (rs.getD i default).den:=by
 obtain ⟨L,e,h3,h4,h5⟩:=h;have hl:i<L.length:=by rw [<-e,List.length_map] at hi;exact hi
 have ed:rs.getD i default=L[i].1:=by rw [<-e];simp [List.getD_eq_getElem?_getD,hl]
 have hok:=h5 _ (List.getElem_mem hl);obtain ⟨a1,c1,e1⟩:=hok.1.shape;obtain ⟨a2,c2,e2⟩:=hok.2.shape
 have hcell:∀ j,j<3->∀ u,(kp L[i])[j]?=some u->w.cell? ⟨g,i*3+j,none⟩=some u:=fun j hj u hu=>by
  have h6:=Bu L i hl j hj;rw [hu] at h6;obtain ⟨h7,h8⟩:=List.getElem?_eq_some_iff.1 h6;rw [h3.cell h7,h8]
 rw [ed];refine ⟨a1,c1,a2,c2,⟨?_,?_,?_⟩,fun j=>h3.free j,h3.lt,by rw [<-e1];exact hok.1,by rw [<-e2];exact hok.2⟩
 ·exact hcell 0 (by decide) _ rfl
 ·rw [<-e1];exact hcell 1 (by decide) _ rfl
 ·rw [<-e2];exact hcell 2 (by decide) _ rfl
def SpanV (w:World) (v:Value) (lo hi:Rw):Prop :=
 ∃ u1 u2 u3 u4,v=.agg #[.bool lo.neg,u1,u2,.bool hi.neg,u3,u4]/\WdsAt w u1 lo.num/\WdsAt w u2 lo.den/\WdsAt w u3 hi.num/\WdsAt w u4 hi.den
theorem SpanV.kept {w w':World} {v:Value} {lo hi:Rw} (h:SpanV w v lo hi) (hk:ag w w'):SpanV w' v lo hi:=by
 obtain ⟨u1,u2,u3,u4,h0,h1,h2,h3,h4⟩:=h;exact ⟨u1,u2,u3,u4,h0,h1.kept hk,h2.kept hk,h3.kept hk,h4.kept hk⟩
theorem SpanV.shape {w:World} {v:Value} {lo hi:Rw} (h:SpanV w v lo hi):∃ a1 c1 a2 c2 a3 c3 a4 c4,v=.agg #[.bool lo.neg,.slice a1 lo.num.length c1,.slice a2 lo.den.length c2,.bool hi.neg,.slice a3 hi.num.length c3,.slice a4 hi.den.length c4] /\
  WdsAt w (.slice a1 lo.num.length c1) lo.num/\WdsAt w (.slice a2 lo.den.length c2) lo.den/\WdsAt w (.slice a3 hi.num.length c3) hi.num/\WdsAt w (.slice a4 hi.den.length c4) hi.den:=by
 obtain ⟨u1,u2,u3,u4,h0,h1,h2,h3,h4⟩:=h;obtain ⟨a1,c1,rfl⟩:=h1.shape;obtain ⟨a2,c2,rfl⟩:=h2.shape;obtain ⟨a3,c3,rfl⟩:=h3.shape;obtain ⟨a4,c4,rfl⟩:=h4.shape;exact ⟨a1,c1,a2,c2,a3,c3,a4,c4,h0,h1,h2,h3,h4⟩
def SpnAt (w:World) (g:Nat) (lo hi:Rw):Prop:=ArrAt w g 44 [lo,hi]
theorem SpnAt.kept {w w':World} {g:Nat} {lo hi:Rw} (h:SpnAt w g lo hi) (hk:ag w w'):SpnAt w' g lo hi:=ArrAt.kept h hk
theorem SpnAt.made {w:World} {lo hi:Rw} {u1 u2 u3 u4:Value} (h1:WdsAt w u1 lo.num) (h2:WdsAt w u2 lo.den) (h3:WdsAt w u3 hi.num) (h4:WdsAt w u4 hi.den) :
  SpnAt (w.alloc (.cells #[.bool lo.neg,u1,u2,.bool hi.neg,u3,u4] 44)) w.heap.size lo hi:=by
 have hk:ag w (w.alloc (.cells #[.bool lo.neg,u1,u2,.bool hi.neg,u3,u4] 44)):=(ag.refl _).alloc _;refine ⟨[(lo,u1,u2),(hi,u3,u4)],rfl,aj.made w #[.bool lo.neg,u1,u2,.bool hi.neg,u3,u4] 44,bn.made w #[.bool lo.neg,u1,u2,.bool hi.neg,u3,u4] 44,fun x hx=>?_⟩;rcases List.mem_cons.1 hx with rfl | hx
 ·exact ⟨h1.kept hk,h2.kept hk⟩
 ·rw [List.mem_singleton] at hx;subst hx;exact ⟨h3.kept hk,h4.kept hk⟩
theorem SpnAt.at {w:World} {g:Nat} {lo hi:Rw} (h:SpnAt w g lo hi):∃ a1 c1 a2 c2 a3 c3 a4 c4,
  (w.cell? ⟨g,0,none⟩=some (.bool lo.neg)/\w.cell? ⟨g,1,none⟩=some (.slice a1 lo.num.length c1)/\w.cell? ⟨g,2,none⟩=some (.slice a2 lo.den.length c2) /\
   w.cell? ⟨g,3,none⟩=some (.bool hi.neg)/\w.cell? ⟨g,4,none⟩=some (.slice a3 hi.num.length c3)/\w.cell? ⟨g,5,none⟩=some (.slice a4 hi.den.length c4)) /\
  (∀ j,w.frozen? ⟨g,j,none⟩=false)/\g<w.heap.size/\WdsAt w (.slice a1 lo.num.length c1) lo.num/\WdsAt w (.slice a2 lo.den.length c2) lo.den/\WdsAt w (.slice a3 hi.num.length c3) hi.num/\WdsAt w (.slice a4 hi.den.length c4) hi.den:=by
 obtain ⟨a1,c1,a2,c2,⟨x0,x1,x2⟩,hf,hl,y1,y2⟩:=ArrAt.at h 0 (by simp);obtain ⟨a3,c3,a4,c4,⟨x3,x4,x5⟩,_,_,y3,y4⟩:=ArrAt.at h 1 (by simp);exact ⟨a1,c1,a2,c2,a3,c3,a4,c4,⟨x0,x1,x2,x3,x4,x5⟩,hf,hl,y1,y2,y3,y4⟩
theorem SpnAt.lo {w:World} {g:Nat} {lo hi r:Rw} {u1 u2:Value} (h:SpnAt w g lo hi) (h1:WdsAt w u1 r.num) (h2:WdsAt w u2 r.den) :
  SpnAt (((w.setCell ⟨g,0,none⟩ (.bool r.neg)).setCell ⟨g,1,none⟩ u1).setCell ⟨g,2,none⟩ u2) g r hi:=ArrAt.store h 0 (by simp) h1 h2
theorem SpnAt.hi {w:World} {g:Nat} {lo hi r:Rw} {u1 u2:Value} (h:SpnAt w g lo hi) (h1:WdsAt w u1 r.num) (h2:WdsAt w u2 r.den) :
  SpnAt (((w.setCell ⟨g,3,none⟩ (.bool r.neg)).setCell ⟨g,4,none⟩ u1).setCell ⟨g,5,none⟩ u2) g lo r:=ArrAt.store h 1 (by simp) h1 h2
theorem tE {w:World} {g:Nat} {lo hi lo0 hi0:Rw} {u1 u2 u3 u4:Value} (h:SpnAt w g lo0 hi0) (h1:WdsAt w u1 lo.num) (h2:WdsAt w u2 lo.den) (h3:WdsAt w u3 hi.num) (h4:WdsAt w u4 hi.den) :
  ∃ w',w'=(((((w.setCell ⟨g,0,none⟩ (.bool lo.neg)).setCell ⟨g,1,none⟩ u1).setCell ⟨g,2,none⟩ u2).setCell ⟨g,3,none⟩ (.bool hi.neg)).setCell ⟨g,4,none⟩ u3).setCell ⟨g,5,none⟩ u4 /\
  (w'.cell? ⟨g,0,none⟩=some (.bool lo.neg)/\w'.cell? ⟨g,1,none⟩=some u1/\w'.cell? ⟨g,2,none⟩=some u2/\w'.cell? ⟨g,3,none⟩=some (.bool hi.neg)/\w'.cell? ⟨g,4,none⟩=some u3/\w'.cell? ⟨g,5,none⟩=some u4) /\
  SpanV w' (.agg #[.bool lo.neg,u1,u2,.bool hi.neg,u3,u4]) lo hi:=by
 refine ⟨_,rfl,?_,?_⟩
 ·obtain ⟨L,e,hr,_,_⟩:=h
  match L,e with
  | [x,y],_ =>
   have hr2:=(((((hr.store 0 (.bool lo.neg)).store 1 u1).store 2 u2).store 3 (.bool hi.neg)).store 4 u3).store 5 u4;have c:=fun i (hi:i<6)=>hr2.cell (i:=i) (by simpa [kp] using hi)
   exact ⟨c 0 (by omega),c 1 (by omega),c 2 (by omega),c 3 (by omega),c 4 (by omega),c 5 (by omega)⟩
 ·obtain ⟨L,e,_,hf,hk⟩:=h;have hO:=((((((aw.refl g w).store 0 (.bool lo.neg)).store 1 u1).store 2 u2).store 3 (.bool hi.neg)).store 4 u3).store 5 u4;have hn:=pI hk;exact ⟨_,_,_,_,rfl,h1.apart hf hn hO,h2.apart hf hn hO,h3.apart hf hn hO,h4.apart hf hn hO⟩
theorem ArrAt.fix {w:World} {g:Nat} {t:TypeId} {rs:List Rw} (h:ArrAt w g t rs):∃ row,bn w g row/\∀ k x,Value.int k x ∉ row:=by
 obtain ⟨L,_,_,hf,hk⟩:=h;exact ⟨_,hf,pI hk⟩
theorem SpnAt.zero (w:World):SpnAt (w.alloc (.cells #[.bool false,.slice none 0 0,.slice none 0 0,.bool false,.slice none 0 0,.slice none 0 0] 44)) w.heap.size ⟨false,[],[]⟩ ⟨false,[],[]⟩ :=
 SpnAt.made (lo:=⟨false,[],[]⟩) (hi:=⟨false,[],[]⟩) (WdsAt.nil _) (WdsAt.nil _) (WdsAt.nil _) (WdsAt.nil _)
theorem RatCell.zero (w:World):RatCell (w.alloc (.cells #[.bool false,.slice none 0 0,.slice none 0 0] 29)) w.heap.size ⟨false,[],[]⟩ :=
 RatCell.made (r:=⟨false,[],[]⟩) (WdsAt.nil w) (WdsAt.nil w)
theorem RatAt.parts {w:World} {v:Value} {r:Rw} (h:RatAt w v r):∃ n l m a1 c1 a2 c2,v=.agg #[.bool n,.slice a1 l c1,.slice a2 m c2]:=by
 obtain ⟨u1,u2,rfl,h1,h2⟩:=h;obtain ⟨a1,c1,rfl⟩:=h1.shape;obtain ⟨a2,c2,rfl⟩:=h2.shape;exact ⟨_,_,_,_,_,_,_,rfl⟩
theorem RatAt.box {w:World} {v:Value} {r:Rw} (h:RatAt w v r):∃ n l m a1 c1 a2 c2 w',v=.agg #[.bool n,.slice a1 l c1,.slice a2 m c2]/\w'=w.alloc (.cells #[.bool n,.slice a1 l c1,.slice a2 m c2] 29) /\
  RatCell w' w.heap.size r/\ag w w'/\RatAt w' (.agg #[.bool n,.slice a1 l c1,.slice a2 m c2]) r/\w'.heap.size=w.heap.size+1:=by
 obtain ⟨u1,u2,rfl,h1,h2⟩:=h;obtain ⟨a1,c1,rfl⟩:=h1.shape;obtain ⟨a2,c2,rfl⟩:=h2.shape;exact ⟨_,_,_,_,_,_,_,_,rfl,rfl,RatCell.made h1 h2,(ag.refl _).alloc _,⟨_,_,rfl,h1.kept ((ag.refl _).alloc _),h2.kept ((ag.refl _).alloc _)⟩,by simp⟩
theorem RatCell.read {w:World} {g:Nat} {r:Rw} (h:RatCell w g r):∃ n l m a1 c1 a2 c2,w.cell? ⟨g,0,none⟩=some (.bool n)/\w.cell? ⟨g,1,none⟩=some (.slice a1 l c1)/\w.cell? ⟨g,2,none⟩=some (.slice a2 m c2)/\g<w.heap.size /\
  Hid (RatAt w (.agg #[.bool n,.slice a1 l c1,.slice a2 m c2]) r):=by
 obtain ⟨a1,c1,a2,c2,⟨x0,x1,x2⟩,_,hl,hx⟩:=h.at;exact ⟨_,_,_,_,_,_,_,x0,x1,x2,hl,af hx⟩
theorem SpanV.box {w:World} {v:Value} {lo hi:Rw} (h:SpanV w v lo hi):∃ n1 l1 m1 n2 l2 m2 a1 c1 a2 c2 a3 c3 a4 c4 w',v=.agg #[.bool n1,.slice a1 l1 c1,.slice a2 m1 c2,.bool n2,.slice a3 l2 c3,.slice a4 m2 c4] /\
  w'=w.alloc (.cells #[.bool n1,.slice a1 l1 c1,.slice a2 m1 c2,.bool n2,.slice a3 l2 c3,.slice a4 m2 c4] 44) /\
  SpnAt w' w.heap.size lo hi/\ag w w'/\SpanV w' (.agg #[.bool n1,.slice a1 l1 c1,.slice a2 m1 c2,.bool n2,.slice a3 l2 c3,.slice a4 m2 c4]) lo hi/\w'.heap.size=w.heap.size+1:=by
 obtain ⟨a1,c1,a2,c2,a3,c3,a4,c4,rfl,h1,h2,h3,h4⟩:=h.shape;exact ⟨_,_,_,_,_,_,_,_,_,_,_,_,_,_,_,rfl,rfl,SpnAt.made h1 h2 h3 h4,(ag.refl _).alloc _,h.kept ((ag.refl _).alloc _),by simp⟩
theorem ArrAt.read2 {w:World} {g:Nat} {t:TypeId} {lo hi:Rw} (h:ArrAt w g t [lo,hi]):∃ n1 l1 m1 n2 l2 m2 a1 c1 a2 c2 a3 c3 a4 c4,
  w.cell? ⟨g,0,none⟩=some (.bool n1)/\w.cell? ⟨g,1,none⟩=some (.slice a1 l1 c1)/\w.cell? ⟨g,2,none⟩=some (.slice a2 m1 c2) /\
  w.cell? ⟨g,3,none⟩=some (.bool n2)/\w.cell? ⟨g,4,none⟩=some (.slice a3 l2 c3)/\w.cell? ⟨g,5,none⟩=some (.slice a4 m2 c4)/\g<w.heap.size /\
  Hid (RatAt w (.agg #[.bool n1,.slice a1 l1 c1,.slice a2 m1 c2]) lo)/\Hid (RatAt w (.agg #[.bool n2,.slice a3 l2 c3,.slice a4 m2 c4]) hi) /\
  Hid (SpanV w (.agg #[.bool n1,.slice a1 l1 c1,.slice a2 m1 c2,.bool n2,.slice a3 l2 c3,.slice a4 m2 c4]) lo hi):=by
 obtain ⟨a1,c1,a2,c2,⟨x0,x1,x2⟩,_,hl,y1,y2⟩:=ArrAt.at h 0 (by simp);obtain ⟨a3,c3,a4,c4,⟨x3,x4,x5⟩,_,_,y3,y4⟩:=ArrAt.at h 1 (by simp);exact ⟨_,_,_,_,_,_,_,_,_,_,_,_,_,_,x0,x1,x2,x3,x4,x5,hl,af ⟨_,_,rfl,y1,y2⟩,af ⟨_,_,rfl,y3,y4⟩,af ⟨_,_,_,_,rfl,y1,y2,y3,y4⟩⟩
theorem SpnAt.read {w:World} {g:Nat} {lo hi:Rw} (h:SpnAt w g lo hi):∃ n1 l1 m1 n2 l2 m2 a1 c1 a2 c2 a3 c3 a4 c4,
  w.cell? ⟨g,0,none⟩=some (.bool n1)/\w.cell? ⟨g,1,none⟩=some (.slice a1 l1 c1)/\w.cell? ⟨g,2,none⟩=some (.slice a2 m1 c2) /\
  w.cell? ⟨g,3,none⟩=some (.bool n2)/\w.cell? ⟨g,4,none⟩=some (.slice a3 l2 c3)/\w.cell? ⟨g,5,none⟩=some (.slice a4 m2 c4)/\g<w.heap.size /\
  Hid (RatAt w (.agg #[.bool n1,.slice a1 l1 c1,.slice a2 m1 c2]) lo)/\Hid (RatAt w (.agg #[.bool n2,.slice a3 l2 c3,.slice a4 m2 c4]) hi) /\
  Hid (SpanV w (.agg #[.bool n1,.slice a1 l1 c1,.slice a2 m1 c2,.bool n2,.slice a3 l2 c3,.slice a4 m2 c4]) lo hi):=ArrAt.read2 h
theorem SpnAt.put {w:World} {g:Nat} {v:Value} {lo0 hi0 lo hi:Rw} (h:SpnAt w g lo0 hi0) (hv:SpanV w v lo hi):∃ n1 l1 m1 n2 l2 m2 a1 c1 a2 c2 a3 c3 a4 c4 w',v=.agg #[.bool n1,.slice a1 l1 c1,.slice a2 m1 c2,.bool n2,.slice a3 l2 c3,.slice a4 m2 c4] /\
  w'=(((((w.setCell ⟨g,0,none⟩ (.bool n1)).setCell ⟨g,1,none⟩ (.slice a1 l1 c1)).setCell ⟨g,2,none⟩ (.slice a2 m1 c2)).setCell ⟨g,3,none⟩ (.bool n2)).setCell ⟨g,4,none⟩ (.slice a3 l2 c3)).setCell ⟨g,5,none⟩ (.slice a4 m2 c4) /\
  ((∃ z,w.cell? ⟨g,0,none⟩=some z)/\(∃ z,w.cell? ⟨g,1,none⟩=some z)/\(∃ z,w.cell? ⟨g,2,none⟩=some z)/\(∃ z,w.cell? ⟨g,3,none⟩=some z)/\(∃ z,w.cell? ⟨g,4,none⟩=some z)/\(∃ z,w.cell? ⟨g,5,none⟩=some z)) /\
  (w.frozen? ⟨g,0,none⟩=false/\w.frozen? ⟨g,1,none⟩=false/\w.frozen? ⟨g,2,none⟩=false/\w.frozen? ⟨g,3,none⟩=false/\w.frozen? ⟨g,4,none⟩=false/\w.frozen? ⟨g,5,none⟩=false)/\g<w.heap.size /\
  Hid (w'.cell? ⟨g,0,none⟩=some (.bool n1)/\w'.cell? ⟨g,1,none⟩=some (.slice a1 l1 c1)/\w'.cell? ⟨g,2,none⟩=some (.slice a2 m1 c2)/\w'.cell? ⟨g,3,none⟩=some (.bool n2)/\w'.cell? ⟨g,4,none⟩=some (.slice a3 l2 c3)/\w'.cell? ⟨g,5,none⟩=some (.slice a4 m2 c4)) /\
  Hid (SpanV w' (.agg #[.bool n1,.slice a1 l1 c1,.slice a2 m1 c2,.bool n2,.slice a3 l2 c3,.slice a4 m2 c4]) lo hi)/\Hid (SpnAt w' g lo hi)/\Hid (aw g w w')/\Hid (∀ W,ag W w->W.heap.size<=g->ag W w'):=by
 obtain ⟨a1,c1,a2,c2,a3,c3,a4,c4,rfl,h1,h2,h3,h4⟩:=hv.shape;obtain ⟨_,_,_,_,_,_,_,_,⟨x0,x1,x2,x3,x4,x5⟩,hf,hl,_⟩:=h.at;obtain ⟨w',hw',hy,hsp⟩:=tE h h1 h2 h3 h4;refine ⟨_,_,_,_,_,_,_,_,_,_,_,_,_,_,w',rfl,hw',⟨⟨_,x0⟩,⟨_,x1⟩,⟨_,x2⟩,⟨_,x3⟩,⟨_,x4⟩,⟨_,x5⟩⟩,⟨hf 0,hf 1,hf 2,hf 3,hf 4,hf 5⟩,hl,af hy,af hsp,af ?_,af ?_,af fun W hk hg=>?_⟩
 ·obtain ⟨row,hfx,hn⟩:=ArrAt.fix h;have hO:=(((aw.refl g w).store 0 (.bool lo.neg)).store 1 (.slice a1 lo.num.length c1)).store 2 (.slice a2 lo.den.length c2);rw [hw'];exact (h.lo h1 h2).hi (h3.apart hfx hn hO) (h4.apart hfx hn hO)
 ·rw [hw'];exact ((((((aw.refl g w).store 0 _).store 1 _).store 2 _).store 3 _).store 4 _).store 5 _
 ·rw [hw'];exact (((((hk.store hg _ _).store hg _ _).store hg _ _).store hg _ _).store hg _ _).store hg _ _
theorem RatCell.save {w:World} {g:Nat} {v:Value} {r0 r:Rw} (h:RatCell w g r0) (hv:RatAt w v r):∃ n l m a1 c1 a2 c2 w',v=.agg #[.bool n,.slice a1 l c1,.slice a2 m c2] /\
  w'=((w.setCell ⟨g,0,none⟩ (.bool n)).setCell ⟨g,1,none⟩ (.slice a1 l c1)).setCell ⟨g,2,none⟩ (.slice a2 m c2) /\
  ((∃ z,w.cell? ⟨g,0,none⟩=some z)/\(∃ z,w.cell? ⟨g,1,none⟩=some z)/\(∃ z,w.cell? ⟨g,2,none⟩=some z)) /\
  (w.frozen? ⟨g,0,none⟩=false/\w.frozen? ⟨g,1,none⟩=false/\w.frozen? ⟨g,2,none⟩=false)/\g<w.heap.size /\
  Hid (w'.cell? ⟨g,0,none⟩=some (.bool n)/\w'.cell? ⟨g,1,none⟩=some (.slice a1 l c1)/\w'.cell? ⟨g,2,none⟩=some (.slice a2 m c2)) /\
  Hid (RatAt w' (.agg #[.bool n,.slice a1 l c1,.slice a2 m c2]) r)/\Hid (RatCell w' g r)/\Hid (∀ W,ag W w->W.heap.size<=g->ag W w'):=by
 obtain ⟨u1,u2,rfl,h1,h2⟩:=hv;obtain ⟨a1,c1,rfl⟩:=h1.shape;obtain ⟨a2,c2,rfl⟩:=h2.shape;obtain ⟨_,_,_,_,⟨x0,x1,x2⟩,hf,hl,_⟩:=h.at;have hs:=h.store h1 h2;obtain ⟨w',hw'⟩:∃ w',w'=((w.setCell ⟨g,0,none⟩ (.bool r.neg)).setCell ⟨g,1,none⟩ (.slice a1 r.num.length c1)).setCell ⟨g,2,none⟩ (.slice a2 r.den.length c2):=⟨_,rfl⟩;rw [<-hw'] at hs;refine ⟨_,_,_,_,_,_,_,w',rfl,hw',⟨⟨_,x0⟩,⟨_,x1⟩,⟨_,x2⟩⟩,hf,hl,af ?_,af ?_,af hs,af fun W hk hg=>?_⟩
 ·obtain ⟨_,_,_,_,hr,_⟩:=h;have hr2:=((hr.store 0 (.bool r.neg)).store 1 (.slice a1 r.num.length c1)).store 2 (.slice a2 r.den.length c2);rw [hw'];have c:=fun i (hi:i<3)=>hr2.cell (i:=i) (by simpa using hi)
  exact ⟨c 0 (by omega),c 1 (by omega),c 2 (by omega)⟩
 ·obtain ⟨a3,c3,a4,c4,_,hfx,_,_⟩:=h;rw [hw'];have hO:=(((aw.refl g w).store 0 (.bool r.neg)).store 1 (.slice a1 r.num.length c1)).store 2 (.slice a2 r.den.length c2);have hn:∀ k x,Value.int k x ∉ [Value.bool r0.neg,.slice a3 r0.num.length c3,.slice a4 r0.den.length c4]:=fun k x hx=>by simp at hx
  exact ⟨_,_,rfl,h1.apart hfx hn hO,h2.apart hfx hn hO⟩
 ·rw [hw'];exact ((hk.store hg _ _).store hg _ _).store hg _ _
theorem SpnAt.free {w:World} {g:Nat} {lo hi:Rw} (h:SpnAt w g lo hi):∀ j,w.frozen? ⟨g,j,none⟩=false:=by
 obtain ⟨_,_,_,_,_,_,_,_,_,hf,_⟩:=h.at;exact hf
theorem SpanV.of2 {w:World} {b1 b2:Bool} {u1 u2 u3 u4:Value} {lo hi:Rw} (h1:RatAt w (.agg #[.bool b1,u1,u2]) lo) (h2:RatAt w (.agg #[.bool b2,u3,u4]) hi):SpanV w (.agg #[.bool b1,u1,u2,.bool b2,u3,u4]) lo hi:=by
 obtain ⟨x1,x2,e1,k1,k2⟩:=h1;obtain ⟨x3,x4,e2,k3,k4⟩:=h2;simp only [Value.agg.injEq,Array.mk.injEq,List.cons.injEq,Value.bool.injEq,and_true] at e1 e2;obtain ⟨rfl,rfl,rfl⟩:=e1;obtain ⟨rfl,rfl,rfl⟩:=e2;exact ⟨_,_,_,_,rfl,k1,k2,k3,k4⟩
theorem SpnAt.lay {w:World} {b1 b2:Bool} {u1 u2 u3 u4:Value} {lo hi:Rw} (hv:SpanV w (.agg #[.bool b1,u1,u2,.bool b2,u3,u4]) lo hi):SpnAt (w.alloc (.cells #[.bool b1,u1,u2,.bool b2,u3,u4] 44)) w.heap.size lo hi:=by
 obtain ⟨_,_,_,_,e,h1,h2,h3,h4⟩:=hv;simp only [Value.agg.injEq,Array.mk.injEq,List.cons.injEq,Value.bool.injEq,and_true] at e;obtain ⟨rfl,rfl,rfl,rfl,rfl,rfl⟩:=e;exact SpnAt.made h1 h2 h3 h4
theorem SpnAt.set {w:World} {g:Nat} {b1 b2:Bool} {u1 u2 u3 u4:Value} {lo0 hi0 lo hi:Rw} (h:SpnAt w g lo0 hi0) (hv:SpanV w (.agg #[.bool b1,u1,u2,.bool b2,u3,u4]) lo hi) :
  SpnAt ((((((w.setCell ⟨g,0,none⟩ (.bool b1)).setCell ⟨g,1,none⟩ u1).setCell ⟨g,2,none⟩ u2).setCell ⟨g,3,none⟩ (.bool b2)).setCell ⟨g,4,none⟩ u3).setCell ⟨g,5,none⟩ u4) g lo hi:=by
 obtain ⟨_,_,_,_,e,h1,h2,h3,h4⟩:=hv;simp only [Value.agg.injEq,Array.mk.injEq,List.cons.injEq,Value.bool.injEq,and_true] at e;obtain ⟨rfl,rfl,rfl,rfl,rfl,rfl⟩:=e;obtain ⟨row,hfx,hn⟩:=ArrAt.fix h;have hO:=(((aw.refl g w).store 0 (.bool lo.neg)).store 1 u1).store 2 u2;exact (h.lo h1 h2).hi (h3.apart hfx hn hO) (h4.apart hfx hn hO)
theorem ArrAt.two {w:World} {r s:Rw} {u1 u2 u3 u4:Value} {b1 b2:Bool} (h1:RatAt w (.agg #[.bool b1,u1,u2]) r) (h2:RatAt w (.agg #[.bool b2,u3,u4]) s) :
  ArrAt (w.alloc (.cells #[.bool b1,u1,u2,.bool b2,u3,u4] 29)) w.heap.size 29 [r,s]:=by
 obtain ⟨x1,x2,e1,k1,k2⟩:=h1;obtain ⟨x3,x4,e2,k3,k4⟩:=h2;simp only [Value.agg.injEq,Array.mk.injEq,List.cons.injEq,Value.bool.injEq,and_true] at e1 e2;obtain ⟨rfl,rfl,rfl⟩:=e1;obtain ⟨rfl,rfl,rfl⟩:=e2;have hk:ag w (w.alloc (.cells #[.bool r.neg,u1,u2,.bool s.neg,u3,u4] 29)):=(ag.refl _).alloc _;refine ⟨[(r,u1,u2),(s,u3,u4)],rfl,aj.made w #[.bool r.neg,u1,u2,.bool s.neg,u3,u4] 29,bn.made w #[.bool r.neg,u1,u2,.bool s.neg,u3,u4] 29,fun x hx=>?_⟩;rcases List.mem_cons.1 hx with rfl | hx
 ·exact ⟨k1.kept hk,k2.kept hk⟩
 ·rw [List.mem_singleton] at hx;subst hx;exact ⟨k3.kept hk,k4.kept hk⟩
def Fs (y:Nat) (is:List Nat):Nat:=is.foldl (fun y i=>y ||| 2^i) y
def Cn (xs:List Int):Nat × List (Nat × Nat):=if c_ xs≠0 then (c_ xs,[]) else match DH (aC xs) with | none=>(4,[]) | some l=>(0,l)
theorem am.get {w:World} {a:Option Addr} {n c:Nat} {xs:List Int} (h:am w (.slice a n c) xs) (i:Nat) (hi:i<xs.length):∃ b o,a=some ⟨b,o,none⟩/\w.cell? ⟨b,o+i,none⟩=some (.int .i64 xs[i]):=by
 obtain ⟨a',c',h1,_,_,h5⟩:=h;injection h1 with h1
 subst h1;exact h5 i hi
def dO (xs:List Int) (ps:List Rw):Nat :=
 if c_ xs≠0 then c_ xs else if (aC xs).any (fun s=>decide ((ps.length:Int)<=jE s))=true then 11 else if cK ps=true then 3 else 0
theorem ql (v:Value) (ps:List Rw) (w:World) (hv:RatsAt w v ps) (hs:∀ x∈ps,x.Short 34359738368):Calls Tryz.prog 56 #[v] w fun e w'=>e=.returned (.bool (cK ps))/\ag w w':=by
 obtain ⟨a,c,rfl,⟨hc,_⟩,hl,hx⟩:=hv;obtain ⟨n,hn⟩:∃ n,n=ps.length:=⟨_,rfl⟩;have hbig:n<=140737488355328:=by omega
 rw [<-hn];have HX:=af hx;have HN:=af hn;have HLT:=af hs;clear hx hn hl hc hs;go_enter Tryz.func56,Tryz.ntmps56;go_wp2_with fail;go_loopg [7] n (fun kx i wr=>∃ k:Nat,k<=n/\i=.int .i64 k/\n - k<=kx/\Hid (∀ x∈ps.take k,bB x=true)/\Hid (ag w wr))
 case atStart=>exact ⟨0,Nat.zero_le _,rfl,by omega,af (by simp),af (ag.refl _)⟩
 case round =>
  obtain ⟨k,hk,rfl,hkx,HF,HK⟩:=hrel;by_cases hlt:k<n
  ·have hkl:k<ps.length:=by have:=HN.out;omega
   obtain ⟨b,o,u1,u2,rfl,hrg,hw1,hw2⟩:=HX.out k hkl;have hrg2:=bY hrg HK.out;have hxl:=HLT.out ps[k] (List.getElem_mem _);obtain ⟨x,hxx⟩:∃ x,x=ps[k]:=⟨_,rfl⟩;rw [<-hxx] at hrg2 hxl hw1 hw2;have HXX:=af hxx;obtain ⟨a1,c1,rfl⟩:=hw1.shape;obtain ⟨a2,c2,rfl⟩:=hw2.shape;have HC:Hid (∀ W,ag w W->Calls Tryz.prog 28 #[.agg #[.bool x.neg,.slice a1 x.num.length c1,.slice a2 x.den.length c2]] W fun e W'=>e=.returned (.bool (bB x))/\ag W W'):=af fun W hk=>mM _ x W ⟨_,_,rfl,hw1.kept hk,hw2.kept hk⟩ ⟨Nat.le_trans hxl.1 (by omega),Nat.le_trans hxl.2 (by omega)⟩
   generalize x.num.length=n1 at *;generalize x.den.length=n2 at *;have HRG:Hid (wr.rangeAt b (o+k*3) [.bool x.neg,.slice a1 n1 c1,.slice a2 n2 c2]):=af hrg2;have hkn:(k:Int)<(n:Int):=by omega
   clear hrg hrg2 hxx hxl hw1 hw2;cases hq:bB x with
   | false =>
    rw [hq] at HC;have HQ:=af hq;clear hq;go_wp2_with (first | (with_reducible refine wpList_load_mid rfl 29 _ rfl b (o+k*3) rfl _ _ HRG.out Tryz.underlying29 rfl (by kernel_rfl) ?_) | (go_at_call 28;refine (HC.out _ (HK.out.alloc _)).mono ?_;rintro e w' ⟨rfl,hK2⟩));go_ret;have hb:cK ps=true:=List.any_eq_true.2 ⟨x,by rw [HXX.out];exact List.getElem_mem _,by rw [HQ.out];rfl⟩;exact ⟨by rw [hb];rfl,(HK.out.alloc _).trans hK2⟩
   | true =>
    rw [hq] at HC;have HQ:=af hq;clear hq;go_wp2_with (first | (with_reducible refine wpList_load_mid rfl 29 _ rfl b (o+k*3) rfl _ _ HRG.out Tryz.underlying29 rfl (by kernel_rfl) ?_) | (go_at_call 28;refine (HC.out _ (HK.out.alloc _)).mono ?_;rintro e w' ⟨rfl,hK2⟩));go_roundg (n - (k+1))
    case measure=>omega
    case rel =>
     refine ⟨k+1,by omega,by go_num,Nat.le_refl _,af ?_,af ((HK.out.alloc _).trans hK2)⟩;intro y hy;rw [List.take_succ_eq_append_getElem hkl] at hy;rcases List.mem_append.1 hy with hy | hy
     ·exact HF.out y hy
     ·simp at hy;rw [hy,<-HXX.out];exact HQ.out
  ·have hh:=HF.out;rw [List.take_of_length_le (by have:=HN.out;omega)] at hh;have HB:Hid (cK ps=false):=af (by unfold cK;rw [List.any_eq_false];intro y hy;simp [hh y hy]);have hkn:¬ (k:Int)<(n:Int):=by omega
   clear hh;go_wp2;go_ret;exact ⟨by rw [HB.out];rfl,HK.out⟩
theorem fy (xv v:Value) (xs:List Int) (ps:List Rw) (w:World) (hx:am w xv xs) (hv:RatsAt w v ps) (h3:∀ r∈ps,r.Short 3) :
  Calls Tryz.prog 46 #[xv,v] w fun e w'=>e=.returned (aY (dO xs ps))/\ag w w':=by
 have HC1:Hid (∀ W,ag w W->Calls Tryz.prog 94 #[xv] W fun e w'=>e=.returned (aY (c_ xs))/\ag W w'):=af fun W h=>uk xv xs W (hx.kept h)
 have HBA:=af (fun W (h:ag w W)=>ql v ps W (hv.kept h) (fun r hr=>⟨Nat.le_trans (h3 r hr).1 (by omega),Nat.le_trans (h3 r hr).2 (by omega)⟩));obtain ⟨Q,hQ⟩:∃ Q,Q=dO xs ps:=⟨_,rfl⟩;rw [<-hQ];unfold dO at hQ;obtain ⟨xa,xc,hxs,hxc,hxl,hxg⟩:=id hx;obtain ⟨m,hm⟩:∃ m,m=xs.length:=⟨_,rfl⟩;rw [<-hm] at hxs;subst hxs;obtain ⟨pa,pc,rfl⟩:=hv.shape;obtain ⟨q1,hq1⟩:∃ q1,q1=c_ xs:=⟨_,rfl⟩;rw [<-hq1] at HC1 hQ;have HF:=af hx;have HM:=af hm;have HQ:=af hQ;have HQ1:=af hq1;have hml:m<=140737488355328:=by omega
 have hpl:=hv.len;clear hx hv hm hQ hq1 h3 hxc hxl hxg;by_cases h1:q1=0
 ·subst h1;rw [aW] at HC1;obtain ⟨hlen,hok⟩:=tY (HQ1.out.symm);obtain ⟨hys,hmk⟩:=lF hok;obtain ⟨ss,hss⟩:∃ ss,ss=aC xs:=⟨_,rfl⟩;have hq2:=HQ.out;rw [if_neg (by simp),<-hss] at hq2;rw [<-hss] at hys hmk;have hms:m=ss.length:=by rw [HM.out,hss];unfold aC;rw [List.length_map]
  have HFS:Hid (am w (.slice xa m xc) (aL ss)):=af (by rw [<-hys];exact HF.out);have HMK:Hid (∀ s∈ss,s<16777216):=af fun s hs=>by have:=hmk s hs;unfold Mk at this;omega
  have HMS:=af hms;have HGR:Hid (∀ (s:Nat) (W:World),s<16777216->Calls Tryz.prog 95 #[.int .i64 s] W fun e w'=>e=.returned (.int .i64 (jE s))/\ag W w'):=af fun s W hs=>(xP s hs W).mono fun _ _ ⟨h1,h2⟩=>⟨h1,h2 ▸ ag.refl _⟩
  obtain ⟨pn,hpn⟩:∃ pn,pn=ps.length:=⟨_,rfl⟩;rw [<-hpn] at hq2 hpl HBA⊢;have HQ3:=af hq2;clear hq2 hys hmk hss hms hlen hok hpn;go_enter Tryz.func46,Tryz.ntmps46;go_wp2_with fail;refine (HC1.out _ (ag.refl _)).mono ?_;rintro e w4 ⟨rfl,hk4⟩;have HK4:=af hk4;clear hk4;go_wp2_with fail;go_loopg [15] m (fun kx s30 wr=>∃ j:Nat,j<=m/\s30=.int .i64 j/\m - j<=kx/\Hid (∀ s∈ss.take j,jE s<(pn:Int))/\Hid (ag w4 wr))
  case atStart=>exact ⟨0,Nat.zero_le _,rfl,by omega,af (by simp),af (ag.refl _)⟩
  case round =>
   obtain ⟨j,hj,rfl,hjx,HG,HKr⟩:=hrel;have HKw:=af (HK4.out.trans HKr.out);by_cases hlt:j<m
   ·have hjl:j<ss.length:=by have:=HMS.out;omega
    obtain ⟨b,o,rfl,hce⟩:=HFS.out.get j (by simpa [aL] using hjl);obtain ⟨s,hs⟩:∃ s,s=ss[j]:=⟨_,rfl⟩;have e1:(aL ss)[j]'(by simpa [aL] using hjl)=(s:Int):=by rw [hs];simp [aL]
    rw [e1] at hce;have hcr:=HKw.out.cell hce;have HS:=af hs;have HGC:=af (fun W=>HGR.out s W (HMK.out s (by rw [hs];exact List.getElem_mem _)));have hji:(j:Int)<(m:Int):=by omega
    obtain ⟨g,hg⟩:∃ g,g=jE s:=⟨_,rfl⟩;have HGG:=af hg;rw [<-hg] at HGC;clear e1 hce hs hg;by_cases hge:(pn:Int)<=g
    ·have HQV:Hid (Q=11):=af (by
      have h:=HQ3.out;rw [if_pos (List.any_eq_true.2 ⟨s,by rw [HS.out];exact List.getElem_mem _,decide_eq_true (by rw [<-HGG.out];exact hge)⟩)] at h;exact h)
     have dge:decide ((pn:Int)<=g)=true:=decide_eq_true hge;go_wp2_with fail;refine (HGC.out _).mono ?_;rintro e w5 ⟨rfl,hk5⟩;have HK5:=af (HKw.out.trans hk5);clear hk5 hcr;go_wp2;go_ret;exact ⟨by rw [HQV.out];rfl,HK5.out⟩
    ·have hgl:¬ (pn:Int)<=g:=hge;have dgl:decide ((pn:Int)<=g)=false:=decide_eq_false hge;go_wp2_with fail;refine (HGC.out _).mono ?_;rintro e w5 ⟨rfl,hk5⟩;have HK5:=af (HKr.out.trans hk5);clear hk5 hcr;go_wp2_with fail;go_roundg (m - (j+1))
     case measure=>omega
     case rel=>exact ⟨j+1,by omega,by go_num,Nat.le_refl _,af (fun y hy=>by
      rw [List.take_succ_eq_append_getElem hjl] at hy;rcases List.mem_append.1 hy with hy | hy
      ·exact HG.out y hy
      ·simp at hy;rw [hy,<-HS.out,<-HGG.out];omega),HK5⟩
   ·have hji:¬ (j:Int)<(m:Int):=by omega
    have HGA:Hid (∀ s∈ss,jE s<(pn:Int)):=af (by have h:=HG.out;rwa [List.take_of_length_le (by have:=HMS.out;omega)] at h)
    have HQA:Hid (Q=if cK ps=true then 3 else 0):=af (by
     have h:=HQ3.out
     rw [if_neg (by
      intro h2;obtain ⟨s,hs,h3⟩:=List.any_eq_true.1 h2;have:=HGA.out s hs;have:=of_decide_eq_true h3;omega)] at h
     exact h)
    cases hbad:cK ps with
    | true =>
     rw [hbad] at HBA HQA;have HQV:Hid (Q=3):=af (by have h:=HQA.out;rw [if_pos rfl] at h;exact h);clear hbad;go_wp2_with fail;refine (HBA.out _ HKw.out).mono ?_;rintro e w5 ⟨rfl,hk5⟩;have HK5:=af (HKw.out.trans hk5);clear hk5;go_wp2;go_ret;exact ⟨by rw [HQV.out];rfl,HK5.out⟩
    | false =>
     rw [hbad] at HBA HQA;have HQV:Hid (Q=0):=af (by have h:=HQA.out;rw [if_neg (by simp)] at h;exact h);clear hbad;go_wp2_with fail;refine (HBA.out _ HKw.out).mono ?_;rintro e w5 ⟨rfl,hk5⟩;have HK5:=af (HKw.out.trans hk5);clear hk5;go_wp2;go_ret;exact ⟨by rw [HQV.out];rfl,HK5.out⟩
 ·have HQV:Hid (Q=q1):=af (by have h:=HQ.out;rw [if_pos h1] at h;exact h);have hqe:aY q1=.iface 60 (.int .i64 q1):=aN h1;rw [HQV.out];have HH1:=af h1;have hqn:((q1:Nat):Int)≠0:=by omega
  have hqb:(((q1:Nat):Int) != 0)=true:=by simpa using hqn
  try rw [hqe] at HC1⊢
  clear hqe;go_enter Tryz.func46,Tryz.ntmps46;go_wp2_with fail;refine (HC1.out _ (ag.refl _)).mono ?_;rintro e w5 ⟨rfl,hk5⟩;have HK5:=af hk5;clear hk5;go_wp2;go_ret;exact ⟨rfl,HK5.out⟩
theorem dM (xv v:Value) (xs:List Int) (ps:List Rw) (w:World) (hx:am w xv xs) (hv:RatsAt w v ps) (h3:∀ r∈ps,r.Short 3) :
  Calls Tryz.prog 50 #[xv,v] w fun e w'=>e=.returned (.int .i64 (dO xs ps:Nat))/\ag w w':=by
 have HC1:Hid (∀ W,ag w W->Calls Tryz.prog 99 #[xv] W fun e w'=>e=.returned (.int .i64 (c_ xs:Nat))/\ag W w'):=af fun W h=>rI xv xs W (hx.kept h)
 have HBA:=af (fun W (h:ag w W)=>vj v ps W (hv.kept h) (fun r hr=>⟨Nat.le_trans (h3 r hr).1 (by omega),Nat.le_trans (h3 r hr).2 (by omega)⟩));obtain ⟨Q,hQ⟩:∃ Q,Q=dO xs ps:=⟨_,rfl⟩;rw [<-hQ];unfold dO at hQ;obtain ⟨xa,xc,hxs,hxc,hxl,hxg⟩:=id hx;obtain ⟨m,hm⟩:∃ m,m=xs.length:=⟨_,rfl⟩;rw [<-hm] at hxs;subst hxs;obtain ⟨pa,pc,rfl⟩:=hv.shape;obtain ⟨q1,hq1⟩:∃ q1,q1=c_ xs:=⟨_,rfl⟩;rw [<-hq1] at HC1 hQ;have HF:=af hx;have HM:=af hm;have HQ:=af hQ;have HQ1:=af hq1;have hml:m<=140737488355328:=by omega
 have hpl:=hv.len;clear hx hv hm hQ hq1 h3 hxc hxl hxg;by_cases h1:q1=0
 ·subst h1
  skip
  obtain ⟨hlen,hok⟩:=tY (HQ1.out.symm);obtain ⟨hys,hmk⟩:=lF hok;obtain ⟨ss,hss⟩:∃ ss,ss=aC xs:=⟨_,rfl⟩;have hq2:=HQ.out;rw [if_neg (by simp),<-hss] at hq2;rw [<-hss] at hys hmk;have hms:m=ss.length:=by rw [HM.out,hss];unfold aC;rw [List.length_map]
  have HFS:Hid (am w (.slice xa m xc) (aL ss)):=af (by rw [<-hys];exact HF.out);have HMK:Hid (∀ s∈ss,s<16777216):=af fun s hs=>by have:=hmk s hs;unfold Mk at this;omega
  have HMS:=af hms;have HGR:Hid (∀ (s:Nat) (W:World),s<16777216->Calls Tryz.prog 100 #[.int .i64 s] W fun e w'=>e=.returned (.int .i64 (jE s))/\ag W w'):=af fun s W hs=>sz s hs W
  obtain ⟨pn,hpn⟩:∃ pn,pn=ps.length:=⟨_,rfl⟩;rw [<-hpn] at hq2 hpl HBA⊢;have HQ3:=af hq2;clear hq2 hys hmk hss hms hlen hok hpn;go_enter Tryz.func50,Tryz.ntmps50;go_wp2_with fail;refine (HC1.out _ (ag.refl _)).mono ?_;rintro e w4 ⟨rfl,hk4⟩;have HK4:=af hk4;clear hk4;go_wp2_with fail;go_loopg [15] m (fun kx s30 wr=>∃ j:Nat,j<=m/\s30=.int .i64 j/\m - j<=kx/\Hid (∀ s∈ss.take j,jE s<(pn:Int))/\Hid (ag w4 wr))
  case atStart=>exact ⟨0,Nat.zero_le _,rfl,by omega,af (by simp),af (ag.refl _)⟩
  case round =>
   obtain ⟨j,hj,rfl,hjx,HG,HKr⟩:=hrel;have HKw:=af (HK4.out.trans HKr.out);by_cases hlt:j<m
   ·have hjl:j<ss.length:=by have:=HMS.out;omega
    obtain ⟨b,o,rfl,hce⟩:=HFS.out.get j (by simpa [aL] using hjl);obtain ⟨s,hs⟩:∃ s,s=ss[j]:=⟨_,rfl⟩;have e1:(aL ss)[j]'(by simpa [aL] using hjl)=(s:Int):=by rw [hs];simp [aL]
    rw [e1] at hce;have hcr:=HKw.out.cell hce;have HS:=af hs;have HGC:=af (fun W=>HGR.out s W (HMK.out s (by rw [hs];exact List.getElem_mem _)));have hji:(j:Int)<(m:Int):=by omega
    obtain ⟨g,hg⟩:∃ g,g=jE s:=⟨_,rfl⟩;have HGG:=af hg;rw [<-hg] at HGC;clear e1 hce hs hg;by_cases hge:(pn:Int)<=g
    ·have HQV:Hid (Q=11):=af (by
      have h:=HQ3.out;rw [if_pos (List.any_eq_true.2 ⟨s,by rw [HS.out];exact List.getElem_mem _,decide_eq_true (by rw [<-HGG.out];exact hge)⟩)] at h;exact h)
     have dge:decide ((pn:Int)<=g)=true:=decide_eq_true hge;go_wp2_with fail;refine (HGC.out _).mono ?_;rintro e w5 ⟨rfl,hk5⟩;have HK5:=af (HKw.out.trans hk5);clear hk5 hcr;go_wp2;go_ret;exact ⟨by rw [HQV.out];rfl,HK5.out⟩
    ·have hgl:¬ (pn:Int)<=g:=hge;have dgl:decide ((pn:Int)<=g)=false:=decide_eq_false hge;go_wp2_with fail;refine (HGC.out _).mono ?_;rintro e w5 ⟨rfl,hk5⟩;have HK5:=af (HKr.out.trans hk5);clear hk5 hcr;go_wp2_with fail;go_roundg (m - (j+1))
     case measure=>omega
     case rel=>exact ⟨j+1,by omega,by go_num,Nat.le_refl _,af (fun y hy=>by
      rw [List.take_succ_eq_append_getElem hjl] at hy;rcases List.mem_append.1 hy with hy | hy
      ·exact HG.out y hy
      ·simp at hy;rw [hy,<-HS.out,<-HGG.out];omega),HK5⟩
   ·have hji:¬ (j:Int)<(m:Int):=by omega
    have HGA:Hid (∀ s∈ss,jE s<(pn:Int)):=af (by have h:=HG.out;rwa [List.take_of_length_le (by have:=HMS.out;omega)] at h)
    have HQA:Hid (Q=if cK ps=true then 3 else 0):=af (by
     have h:=HQ3.out
     rw [if_neg (by
      intro h2;obtain ⟨s,hs,h3⟩:=List.any_eq_true.1 h2;have:=HGA.out s hs;have:=of_decide_eq_true h3;omega)] at h
     exact h)
    cases hbad:cK ps with
    | true =>
     rw [hbad] at HBA HQA;have HQV:Hid (Q=3):=af (by have h:=HQA.out;rw [if_pos rfl] at h;exact h);clear hbad;go_wp2_with fail;refine (HBA.out _ HKw.out).mono ?_;rintro e w5 ⟨rfl,hk5⟩;have HK5:=af (HKw.out.trans hk5);clear hk5;go_wp2;go_ret;exact ⟨by rw [HQV.out];rfl,HK5.out⟩
    | false =>
     rw [hbad] at HBA HQA;have HQV:Hid (Q=0):=af (by have h:=HQA.out;rw [if_neg (by simp)] at h;exact h);clear hbad;go_wp2_with fail;refine (HBA.out _ HKw.out).mono ?_;rintro e w5 ⟨rfl,hk5⟩;have HK5:=af (HKw.out.trans hk5);clear hk5;go_wp2;go_ret;exact ⟨by rw [HQV.out];rfl,HK5.out⟩
 ·have HQV:Hid (Q=q1):=af (by have h:=HQ.out;rw [if_pos h1] at h;exact h);have hqe:aY q1=.iface 60 (.int .i64 q1):=aN h1;rw [HQV.out];have HH1:=af h1;have hqn:((q1:Nat):Int)≠0:=by omega
  have hqb:(((q1:Nat):Int) != 0)=true:=by simpa using hqn
  try rw [hqe] at HC1⊢
  clear hqe;go_enter Tryz.func50,Tryz.ntmps50;go_wp2_with fail;refine (HC1.out _ (ag.refl _)).mono ?_;rintro e w5 ⟨rfl,hk5⟩;have HK5:=af hk5;clear hk5;go_wp2;go_ret;exact ⟨rfl,HK5.out⟩
def E_ (n:Nat) (F:Nat->Rat):Prop:=∀ s t,s<2^n->t<2^n->aZ s t=true->F s<=F t
def kl {α:Type} (f:α->Rat) (l:List α):Rat:=l.foldl (fun a c=>a*f c) 1
theorem ur {α:Type} (f:α->Rat):∀ (l:List α) (a:Rat),l.foldl (fun a c=>a*f c) a=a*kl f l:=by
 intro l;induction l with
 | nil=>intro a;exact (Rat.mul_one a).symm
 | cons c l ih =>
  intro a;unfold kl;rw [List.foldl_cons,List.foldl_cons,ih,ih (1*f c)]
  grind
theorem kM {α:Type} (f:α->Rat) (c:α) (l:List α):kl f (c :: l)=f c*kl f l:=by
 show l.foldl _ _=_;rw [ur]
 grind
theorem uZ {α:Type} {f:α->Rat}:∀ {l:List α},(∀ c∈l,0<=f c/\f c<=1)->0<=kl f l/\kl f l<=1:=by
 intro l;induction l with
 | nil=>intro _;exact ⟨by show (0:Rat)<=1;decide,Rat.le_refl⟩
 | cons c l ih =>
  intro h;obtain ⟨h0,h1⟩:=h c List.mem_cons_self;obtain ⟨g0,g1⟩:=ih fun d hd=>h d (List.mem_cons_of_mem _ hd)
  rw [kM];refine ⟨Rat.mul_nonneg h0 g0,?_⟩;have:=Rat.mul_le_mul_of_nonneg_left g1 h0;rw [Rat.mul_one] at this;exact Rat.le_trans this h1
theorem uY {α:Type} {f g:α->Rat}:∀ {l:List α},(∀ c∈l,0<=f c/\f c<=g c)->kl f l<=kl g l/\0<=kl f l:=by
 intro l;induction l with
 | nil=>intro _;exact ⟨Rat.le_refl,by show (0:Rat)<=1;decide⟩
 | cons c l ih =>
  intro h;obtain ⟨h0,h1⟩:=h c List.mem_cons_self;obtain ⟨g0,g1⟩:=ih fun d hd=>h d (List.mem_cons_of_mem _ hd)
  rw [kM,kM];exact ⟨Rat.le_trans (Rat.mul_le_mul_of_nonneg_right h1 g1) (Rat.mul_le_mul_of_nonneg_left g0 (Rat.le_trans h0 h1)),Rat.mul_nonneg h0 g1⟩
def Fn (n a:Nat) (F:Nat->Rat):Prop:=∀ s t,s<2^n->t<2^n->(∀ i,a.testBit i=true->s.testBit i=t.testBit i)->F s=F t
def eT (q:Nat->Rat) (n s:Nat):Rat:=wQ q (s,0) n
def gr (q:Nat->Rat) (n s:Nat):Rat:=wQ q (0,s) n
def lG (f:Nat->Rat) (l:List Nat):Rat:=kl (fun s=>1 - f s) l
def np (f:Nat->Rat) (l:List Nat):Rat:=l.foldl (fun a s=>if a<=f s then f s else a) 0
def FO (l:List Nat) (s:Nat):Bool:=l.all fun t=>!(t &&& s == 0)
section
variable {q:Nat->Rat} {n:Nat} (hq:∀ i,i<n->0<=q i/\q i<=1) {l:List Nat} (hl:∀ t∈l,∀ i,t.testBit i=true->i<n)
include hq hl
end
theorem Ay {f:Nat->Rat} {x:Rat}:∀ {l:List Nat} {a:Rat},a<=x->(∀ t∈l,f t<=x)->l.foldl (fun a s=>if a<=f s then f s else a) a<=x:=by
 intro l;induction l with
 | nil=>intro a h _;exact h
 | cons c l ih =>
  intro a h h1;rw [List.foldl_cons];refine ih ?_ fun t ht=>h1 t (List.mem_cons_of_mem _ ht)
  split
  ·exact h1 c List.mem_cons_self
  ·exact h
theorem Ax {f:Nat->Rat}:∀ {l:List Nat} {a:Rat},a<=l.foldl (fun a s=>if a<=f s then f s else a) a/\∀ t∈l,f t<=l.foldl (fun a s=>if a<=f s then f s else a) a:=by
 intro l;induction l with
 | nil=>intro a;exact ⟨Rat.le_refl,fun t h=>by cases h⟩
 | cons c l ih =>
  intro a;rw [List.foldl_cons];obtain ⟨h1,h2⟩:=ih (a:=if a<=f c then f c else a)
  have h3:a<=(if a<=f c then f c else a)/\f c<=(if a<=f c then f c else a):=by
   split
   ·rename_i h;exact ⟨h,Rat.le_refl⟩
   ·rename_i h;exact ⟨Rat.le_refl,Rat.le_of_lt (Rat.not_le.1 h)⟩
  refine ⟨Rat.le_trans h3.1 h1,fun t ht=>?_⟩;rcases List.mem_cons.1 ht with rfl | ht
  ·exact Rat.le_trans h3.2 h1
  ·exact h2 t ht
def Dy:List Nat->Nat->Bool
 | [],_=>true
 | t :: l,a=>(a &&& t == 0)&&Dy l (a ||| t)
def wh (n:Nat) (q q':Nat->Rat):Prop:=∀ i,i<n->0<=q i/\q i<=q' i/\q' i<=1
theorem eU (q:Nat->Rat) (n s:Nat):eT q (n+1) s=eT q n s*if s.testBit n=true then q n else 1:=by
 show (wQ q (s,0) n*if s.testBit n=true then q n else 1)*(if (0:Nat).testBit n=true then 1 - q n else 1)=_;have e:(if (0:Nat).testBit n=true then 1 - q n else 1)=(1:Rat):=by simp
 rw [e,Rat.mul_one];rfl
theorem v_ (q:Nat->Rat) (n s:Nat):gr q (n+1) s=gr q n s*if s.testBit n=true then 1 - q n else 1:=by
 show (wQ q (0,s) n*if (0:Nat).testBit n=true then q n else 1)*(if s.testBit n=true then 1 - q n else 1)=_;have e:(if (0:Nat).testBit n=true then q n else 1)=(1:Rat):=by simp
 rw [e,Rat.mul_one];rfl
theorem dm {n:Nat} {q q':Nat->Rat} (s:Nat) (h:wh n q q'):0<=eT q n s/\eT q n s<=eT q' n s/\eT q' n s<=1:=by
 induction n with
 | zero=>exact ⟨by show (0:Rat)<=1;decide,Rat.le_refl,Rat.le_refl⟩
 | succ n ih =>
  obtain ⟨h1,h2,h3⟩:=ih fun i hi=>h i (by omega)
  obtain ⟨g1,g2,g3⟩:=h n (by omega);rw [eU,eU];split
  ·have a0:=Rat.le_trans h1 h2;have b0:=Rat.le_trans g1 g2;refine ⟨Rat.mul_nonneg h1 g1,Rat.le_trans (Rat.mul_le_mul_of_nonneg_right h2 g1) (Rat.mul_le_mul_of_nonneg_left g2 a0),?_⟩;have:=Rat.mul_le_mul_of_nonneg_left g3 a0;rw [Rat.mul_one] at this;exact Rat.le_trans this h3
  ·rw [Rat.mul_one,Rat.mul_one];exact ⟨h1,h2,h3⟩
theorem kS (q:Nat->Rat) (s:Nat):∀ n,gr q n s=eT (fun i=>1 - q i) n s:=by
 intro n;induction n with
 | zero=>rfl
 | succ n ih=>rw [v_,eU,ih]
theorem dU {n:Nat} {q q':Nat->Rat} (s:Nat) (h:wh n q q'):0<=gr q' n s/\gr q' n s<=gr q n s/\gr q n s<=1:=by
 rw [kS,kS];refine dm s fun i hi=>?_
 obtain ⟨g1,g2,g3⟩:=h i hi;refine ⟨?_,?_,?_⟩ <;> grind
theorem oP {f g:Nat->Rat} {l:List Nat} (h:∀ t∈l,0<=f t/\f t<=g t/\g t<=1):lG g l<=lG f l:=by
 refine (uY fun t ht=>?_).1;obtain ⟨g1,g2,g3⟩:=h t ht;constructor <;> grind
theorem uO {a b x y:Rat} (h:a<=b) (h2:x<=y):(if a<=x then x else a)<=if b<=y then y else b:=by
 split <;> split <;> grind
theorem oM {f g:Nat->Rat}:∀ {l:List Nat} {a b:Rat},(∀ t∈l,f t<=g t)->a<=b->l.foldl (fun a s=>if a<=f s then f s else a) a<=l.foldl (fun a s=>if a<=g s then g s else a) b:=by
 intro l;induction l with
 | nil=>intro a b _ h;exact h
 | cons c l ih =>
  intro a b h h1;rw [List.foldl_cons,List.foldl_cons];exact ih (fun t ht=>h t (List.mem_cons_of_mem _ ht)) (uO h1 (h c List.mem_cons_self))
theorem oQ {f:Nat->Rat} {l:List Nat} (h:∀ t∈l,0<=f t/\f t<=1):0<=lG f l/\lG f l<=1:=by
 refine uZ fun t ht=>?_
 obtain ⟨g1,g2⟩:=h t ht;constructor <;> grind
theorem oN {f:Nat->Rat} {l:List Nat} (h:∀ t∈l,0<=f t/\f t<=1):0<=np f l/\np f l<=1 :=
 ⟨(Ax (f:=f) (l:=l) (a:=0)).1,Ay (by decide) fun t ht=>(h t ht).2⟩
def Fv (n most:Nat):Bool:=(decide (40<n)&&decide (n<=most))||decide (3000<n)
theorem tS (b:Nat) (w:World) (h0:w.cell? ⟨b,0,none⟩=some (.pointer none)) (hsh:w.shape? b=some (167,2)) (hfz:w.frozen? ⟨b,0,none⟩=false) :
  Calls Tryz.prog 212 #[.pointer (some ⟨b,0,none⟩)] w fun e w'=>e=.returned (.tuple #[])/\w'=w.setCell ⟨b,0,none⟩ (.pointer (some ⟨b,0,none⟩)):=by
 have hsz:(Tryz.prog.info? 167).map (fun i=>i.size)=some 2:=by kernel_rfl
 obtain ⟨j,hj,hjs⟩:=Option.map_eq_some_iff.1 hsz;have hne:j.size≠0:=by rw [hjs];decide
 go_enter Tryz.func212,Tryz.ntmps212;go_wp2;rw [Lib.run_to_unsafe w ⟨b,0,none⟩ Tryz.underlying164 Tryz.underlying243 hj hne hsh (Nat.zero_lt_succ 1)];simp only [Result.andThen];rw [Oper.upon_value];go_wp2;rw [run_callFunc_extern Tryz.func253 (by kernel_rfl) (by kernel_rfl) (by kernel_rfl) (e:=Extern.AbiNoEscape.same) (by kernel_rfl)];rw [Lib.run_noEscape];simp only [Result.andThen];rw [Oper.upon_value];go_wp2;rw [Lib.run_from_unsafe w ⟨b,0,none⟩ Tryz.underlying243 Tryz.underlying164 hj hsh Go.Proofs.Tryz.Builder_Extra_169.liesBuilder];simp only [Result.andThen];rw [Oper.upon_value];go_wp2;go_end0;exact ⟨rfl,rfl⟩
theorem tU (B b:Nat) (s:ByteArray) (w:World) (hB:B<=b) (hbk:w.heap[b]?=some (.cells #[.pointer none,.slice none 0 0] 167 (0,0))) (hlen:s.size<=140737488355328) (hBw:B<=w.heap.size) :
  Calls Tryz.prog 149 #[.pointer (some ⟨b,0,none⟩),.string s] w fun e w'=>e=.returned (.tuple #[.int .i64 s.size,.nilIface])/\(Lib.BuilderAt 167 5 B b (.pointer (some ⟨b,0,none⟩)) (Lib.strCells s) w'/\Below B w w'):=by
 obtain ⟨i0,hi,hz0,hz1,hz2⟩:=info_parts Go.Proofs.Tryz.Builder_Extra_169.infoByte
 have hlt:b<w.heap.size:=by
  rcases Nat.lt_or_ge b w.heap.size with h' | h'
  ·exact h'
  ·simp [Array.getElem?_eq_none h'] at hbk
 have e0:w.cell? ⟨b,0,none⟩=some (.pointer none):=by simp [World.cell?,hbk]
 have ef:w.frozen? ⟨b,0,none⟩=false:=Lib.frozen_of_heap hbk 0;have es:w.shape? b=some (167,2):=by simp [World.shape?,hbk]
 obtain ⟨w1,hw1⟩:∃ w1,w1=w.setCell ⟨b,0,none⟩ (.pointer (some ⟨b,0,none⟩)):=⟨_,rfl⟩;have HCK:Hid (Calls Tryz.prog 212 #[.pointer (some ⟨b,0,none⟩)] w fun e w'=>e=.returned (.tuple #[])/\w'=w1):=af (by rw [hw1];exact tS b w e0 es ef);obtain ⟨v,hv⟩:∃ v:Value,v=.slice none 0 0:=⟨_,rfl⟩;have HOW:Hid (w1.ownsRow B 5 1 v 0 []):=af (by rw [hv];exact World.ownsRow_nil _ _ _ _);have HNB:Hid (v.ownBlock=none):=af (by rw [hv];rfl)
 have hb1:w1.heap[b]?=some (.cells #[.pointer (some ⟨b,0,none⟩),v] 167 (0,0)):=by
  rw [hw1,hv];have:=heap_setCell_same w b 0 _ _ (.pointer (some ⟨b,0,none⟩)) hbk;simpa using this
 have hk1:Below B w w1:=by rw [hw1];exact (Below.refl B w).setCell (p:=⟨b,0,none⟩) hB _
 have hs1:w1.heap.size=w.heap.size:=by rw [hw1];simp
 have c0:w1.cell? ⟨b,0,none⟩=some (.pointer (some ⟨b,0,none⟩)):=by rw [Lib.cell_of_heap hb1];rfl
 have c1:w1.cell? ⟨b,1,none⟩=some v:=by rw [Lib.cell_of_heap hb1];rfl
 have HB1:=af hb1;have HK1:=af hk1;have HI:=af hi;have HZ0:=af hz0;have HZ1:=af hz1;have HZ2:=af hz2;clear hw1 hv hbk e0 ef es hb1 hk1 hi hz0 hz1 hz2;go_enter Tryz.func149,Tryz.ntmps149;go_wp2_with (go_at_call 212;refine HCK.out.mono ?_);rintro e w1' ⟨rfl,rfl⟩;go_wp2_with (at_builtin;refine Lib.wpList_append_own_string _ rfl _ _ 165 9 rfl B 5 i0 Tryz.underlying165 Tryz.underlying9 HI.out HZ0.out HZ1.out HZ2.out v 0 [] rfl HOW.out s rfl ?c3 ?c4 ?c5 ?_)
 case c3=>unfold maxLen;omega
 case c4=>omega
 case c5=>omega
 intro v' w2 hown' hgrow _
 have hb2:w2.heap[b]?=some (.cells #[.pointer (some ⟨b,0,none⟩),v] 167 (0,0)):=by
  rw [hgrow.block b (by rw [hs1];exact hlt) (fun e=>by rw [HNB.out] at e;cases e)];exact HB1.out
 have d0:w2.cell? ⟨b,0,none⟩=some (.pointer (some ⟨b,0,none⟩)):=by rw [Lib.cell_of_heap hb2];rfl
 have d1:w2.cell? ⟨b,1,none⟩=some v:=by rw [Lib.cell_of_heap hb2];rfl
 have f1:w2.frozen? ⟨b,1,none⟩=false:=Lib.frozen_of_heap hb2 1
 obtain ⟨ao,n',cap,rfl⟩:∃ ao n' cap,v'=.slice ao n' cap:=by
  rcases hown'.2 with ⟨hv,_⟩ | ⟨g,cap,cur,hv,_⟩
  ·exact ⟨_,_,_,hv⟩
  ·exact ⟨_,_,_,hv⟩
 go_wp2;go_ret2;refine ⟨rfl,?_,?_⟩
 ·exact Lib.BuilderAt.put (T:=167) (e:=5) hB hb2 (bs':=Lib.strCells s) (by simpa [Lib.strCells_length] using hown') Go.Proofs.Tryz.Builder_Extra_169.neB5
 ·exact (HK1.out.grown hgrow (by rw [hs1];exact hBw) (fun k hk=>by rw [HNB.out] at hk;cases hk)).setCell (p:=⟨b,1,none⟩) hB _
def nZ (r k:Nat):List Value:=(List.range 9).map fun j=>.int .u8 (((if 9<=j+k then 48+r / 10^(8 - j) % 10 else 0:Nat)):Int)
theorem xq (r k:Nat) (hk:k<9):(nZ r k).set (8 - k) (.int .u8 ((48+r / 10^k % 10:Nat):Int))=nZ r (k+1):=by
 match k,hk with
 | 0,_=>rfl
 | 1,_=>rfl
 | 2,_=>rfl
 | 3,_=>rfl
 | 4,_=>rfl
 | 5,_=>rfl
 | 6,_=>rfl
 | 7,_=>rfl
 | 8,_=>rfl
def hZ (r:Nat):List UInt8:=(List.range 9).map fun j=>UInt8.ofNat (48+r / 10^(8 - j) % 10)
theorem eN (r:Nat):(hZ r).length=9:=by unfold hZ;simp
theorem yq (r j:Nat) (h:j<(hZ r).length):(((hZ r)[j].toNat:Nat):Int)=((48+r / 10^(8 - j) % 10:Nat):Int):=by
 rw [eN] at h
 have:r / 10^(8 - j) % 10<10:=Nat.mod_lt _ (by decide)
 simp [hZ];omega
theorem zG (r j:Nat) (h:j<9):(nZ r 9)[j]'(by simp [nZ];omega)=.int .u8 ((48+r / 10^(8 - j) % 10:Nat):Int):=by
 simp [nZ]
theorem AD (r:Nat) (hr:r<4294967296) (w:World):Calls Tryz.prog 148 #[.int .u32 r] w fun e w'=>e=.returned (.string ⟨(hZ r).toArray⟩)/\ag w w':=by
 obtain ⟨w1,hw1⟩:∃ w1,w1=w.alloc (.cells #[.int .u8 0,.int .u8 0,.int .u8 0,.int .u8 0,.int .u8 0,.int .u8 0,.int .u8 0,.int .u8 0,.int .u8 0] 211):=⟨_,rfl⟩;have HR1:Hid (aj w1 w.heap.size 211 (nZ r 0)):=af (by rw [hw1];exact aj.made w #[.int .u8 0,.int .u8 0,.int .u8 0,.int .u8 0,.int .u8 0,.int .u8 0,.int .u8 0,.int .u8 0,.int .u8 0] 211);have HK1:Hid (ag w w1):=af (by rw [hw1];exact (ag.refl w).alloc _);have HW1:=af hw1
 have HCV:Hid (∀ W,aj W w.heap.size 211 (nZ r 9)->(convert 165 9 (.slice (some ⟨w.heap.size,0,none⟩) 9 9)).run Tryz.prog W=.ok (.string ⟨(hZ r).toArray⟩) W):=af fun W hW=>by
  have h:=run_convert_bytes_back (P:=Tryz.prog) W 165 9 5 ⟨w.heap.size,0,none⟩ 9 (hZ r) Tryz.underlying165 Tryz.underlying5 Tryz.underlying9 (fun j hj=>by
   have hj9:j<9:=by rw [eN] at hj;exact hj
   have h1:=hW.cell (i:=j) (by simp [nZ];omega);rw [zG r j hj9,<-yq r j hj] at h1;rw [show ({ block:=w.heap.size,off:=0 }:Addr).add j=⟨w.heap.size,j,none⟩ by unfold Addr.add;split <;> simp_all];exact h1)
  rw [eN] at h;exact h
 clear hw1;go_enter Tryz.func148,Tryz.ntmps148;go_wp2_with fail;try rw [<-HW1.out]
 go_loopg [0,4] 9 (fun kx s0 s4 wr=>∃ k:Nat,k<=9/\s4=.int .i64 (8 - (k:Int))/\9 - k<=kx/\s0=.int .u32 (r / 10^k:Nat)/\Hid (aj wr w.heap.size 211 (nZ r k))/\Hid (ag w wr))
 case atStart=>exact ⟨0,Nat.zero_le _,rfl,by omega,by simp,HR1,HK1⟩
 case round =>
  obtain ⟨k,hk,rfl,hkx,rfl,HR,HK⟩:=hrel;by_cases hlt:k<9
  ·have hkn:0<=(8 - (k:Int)):=by omega
   have HST:=af (xq r k hlt);have hd:r / 10^k<4294967296:=Nat.lt_of_le_of_lt (Nat.div_le_self _ _) hr;have HDD:Hid (r / 10^(k+1)=r / 10^k / 10):=af (by rw [Nat.pow_succ,Nat.div_div_eq_div_mul]);obtain ⟨m,hm⟩:∃ m,m=r / 10^k:=⟨_,rfl⟩;rw [<-hm] at hd HST HDD⊢;obtain ⟨d,hdd⟩:∃ d,d=m % 10:=⟨_,rfl⟩;have hd10:d<10:=by omega
   have f0:=HR.out.free (8 - k);have HLT:Hid (8 - k<(nZ r k).length):=af (by simp [nZ];omega);have hc:=HR.out.cell (i:=8 - k) HLT.out;have hix:(8 - (k:Int)).toNat=8 - k:=by omega
   have hi9:(8 - (k:Int))<9:=by omega
   have p1:Int.tmod (m:Int) 10=(d:Int):=by rw [hdd];exact Int.ofNat_tmod m 10
   have p2:IntKind.u32.wrap (48+(d:Int))=((48+d:Nat):Int):=by rw [IntKind.wrap_u32];omega
   have p3:IntKind.u8.wrap ((48+d:Nat):Int)=((48+d:Nat):Int):=by rw [IntKind.wrap_u8];omega
   clear hm;go_wp2;go_roundg (9 - (k+1))
   case measure=>omega
   case rel =>
    refine ⟨k+1,by omega,by go_num,Nat.le_refl _,?_,?_,?_⟩
    ·rw [HDD.out];simp
    ·refine af ?_;have h:=HR.out.store (8 - k) (.int .u8 ((48+m % 10:Nat):Int));rw [HST.out] at h;simpa using h
    ·exact af (HK.out.store (Nat.le_refl _) _ _)
  ·have hke:k=9:=by omega
   have hkn:¬ 0<=(8 - (k:Int)):=by omega
   rw [hke] at HR;have hcv:=HCV.out wr HR.out;clear hke;go_wp2;go_ret;exact ⟨rfl,HK.out⟩
theorem Aj:(Tryz.prog.info? 9).map (fun i=>(i.zero,i.size,i.bytes))=some (some (.string .empty),1,16):=by kernel_rfl
theorem yv {w:World} {B:Nat} {e:TypeId} {v y:Value} (h:w.ownsRow B e 1 v 1 [y]):∃ g cap,v=.slice (some ⟨g,0,none⟩) 1 cap/\w.cell? ⟨g,0,none⟩=some y:=by
 obtain ⟨_,h2⟩:=h;rcases h2 with ⟨_,h⟩ | ⟨g,cap,cur,rfl,h5,h6,h7,h8,h9,h10⟩
 ·cases h
 ·refine ⟨g,cap,rfl,?_⟩
  have e1:(cur.toList.take 1)[0]?=some y:=by
   have:=congrArg (fun l=>l[0]?) h10;simpa using this
  simp only [World.cell?,h6];simpa using e1
theorem oU {n:Nat} (h0:n≠0) (h:n<4294967296):nw n=[n]:=by
 rw [mG h0,Nat.mod_eq_of_lt h,Nat.div_eq_of_lt h,bN]
theorem qy (v:Value) (xs:List Nat) (n:Nat) (l:List UInt8) (w:World) (hv:WdsAt w v xs) (hn:nv xs=n) (h0:n≠0) (h9:n<1000000000) (hl:Lib.trimLeftB (hZ n) 48=l) (hne:l≠[]) :
  Calls Tryz.prog 92 #[v] w fun e w'=>e=.returned (.string ⟨l.toArray⟩)/\ag w w':=by
 have HT:Hid (Calls Tryz.prog 116 #[v] w fun e w'=>(∃ v',e=.returned v'/\WdsAt w' v' [n])/\ag w w'):=af (by have h:=bh v xs w hv;rw [hn,oU h0 (by omega)] at h;exact h)
 have HSM:Hid (∀ W va,WdsAt W va [n]->Calls Tryz.prog 147 #[va,.int .u32 (1000000000:Nat)] W fun e w'=>(∃ v',e=.returned (.tuple #[v',.int .u32 n])/\WdsAt w' v' [])/\ag W w'):=af fun W va h=>by
  have h:=qM va [n] 1000000000 W h (by omega) (by omega);have e1:nv [n]=n:=by simp [nv]
  rw [e1,Nat.mod_eq_of_lt h9,Nat.div_eq_of_lt h9,bN] at h;exact h
 have HNI:=af (fun W=>AD n (by omega) W);obtain ⟨N9,hN9⟩:∃ N9,N9=hZ n:=⟨_,rfl⟩;have HLEN:Hid (N9.length=9):=af (by rw [hN9];exact eN n)
 have HN9:Hid (N9≠[]):=af fun h=>by
  have h2:=HLEN.out;rw [h] at h2;simp at h2
 rw [<-hN9] at HNI hl
 have HTR:Hid (∀ W,Calls Tryz.prog 150 #[.string ⟨N9.toArray⟩,.string ⟨#[48]⟩] W fun e w'=>e=.returned (.string ⟨l.toArray⟩)/\w'=W):=af fun W=>by
  have h:=Go.Proofs.Tryz.strings_TrimLeft_one ⟨N9.toArray⟩ 48 (by decide) W;rw [show (⟨N9.toArray⟩:ByteArray).data.toList=N9 from rfl,hl] at h;exact h
 have HNE:Hid ((⟨l.toArray⟩:ByteArray)≠⟨#[]⟩):=af fun h=>hne (by
  have:=congrArg (fun b=>b.data.toList) h;simpa using this)
 have hie:l.isEmpty=false:=by cases l with
  | nil=>exact absurd rfl hne
  | cons _ _=>rfl
 have HV:=af hv;obtain ⟨av,cv,rfl⟩:=hv.shape;clear hv hn h9 hl hne hN9;go_enter Tryz.func92,Tryz.ntmps92;go_wp2_with fail;refine HT.out.mono ?_;rintro e w2 ⟨⟨v2,rfl,hv2⟩,hk2⟩;have HV2:=af hv2;have HK2:=af hk2;clear hv2 hk2;go_wp2_with fail;go_loopg [0,3] 1 (fun kx s0 s3 wr=>((1<=kx/\s3=.slice none 0 0/\Hid (WdsAt wr s0 [n]))\/(Hid (WdsAt wr s0 [])/\Hid (wr.ownsRow w2.heap.size 9 1 s3 1 [.string ⟨N9.toArray⟩])))/\Hid (ag w2 wr))
 case atStart=>exact ⟨.inl ⟨Nat.le_refl _,rfl,HV2⟩,af (ag.refl _)⟩
 case round =>
  obtain ⟨hor,HK⟩:=hrel;rcases hor with ⟨hkx,rfl,HA⟩ | ⟨HA,HO⟩
  ·obtain ⟨a0,c0,rfl⟩:=HA.out.shape;simp only [List.length_singleton] at HA⊢
   go_wp2_with (first
    | (go_at_call 147;refine (HSM.out _ _ HA.out).mono ?_;rintro e w3 ⟨⟨v3,rfl,hv3⟩,hk3⟩;have HV3:=af hv3;have HK3:=af hk3;clear hv3 hk3)
    | (go_at_call 148;refine (HNI.out _).mono ?_;rintro e w4 ⟨rfl,hk4⟩;have HK4:=af hk4;clear hk4)
    | (at_builtin;refine nQ 160 9 _ 16 Aj Tryz.underlying160 rfl rfl _ _ rfl w2.heap.size _ [] rfl (World.ownsRow_nil _ _ _ _) _ (.string ⟨N9.toArray⟩) rfl (by simp) rfl (by simp) (by simp [maxLen]) (by have:=HK.out.size;have:=HK3.out.size;have:=HK4.out.size;simp;omega) ?_;intro v' w' h5 _ h6;have H5:=af h5;have H6:=af h6;clear h5 h6))
   go_roundg 0
   case measure=>omega
   case rel =>
    have hk:=((HK.out.trans HK3.out).trans HK4.out).alloc (.cells #[.string ⟨N9.toArray⟩] 9);refine ⟨.inr ⟨af ?_,af (by simpa using H5.out)⟩,af (hk.app H6.out)⟩;obtain ⟨a9,c9,i1,i2,i3,i4,_⟩:=HV3.out;exact ⟨a9,c9,i1,i2,i3,i4,fun i hi=>by simp at hi⟩
  ·obtain ⟨a0,c0,rfl⟩:=HA.out.shape;simp only [List.length_nil] at HA⊢;obtain ⟨g3,cap3,rfl,hc3⟩:=yv HO.out;have HC3:=af hc3;clear hc3;go_wp2_with fail;obtain ⟨w4,hw4⟩:∃ w4,w4=wr.alloc (.cells #[.pointer none,.slice none 0 0] 167):=⟨_,rfl⟩;have HBK4:Hid (w4.heap[wr.heap.size]?=some (.cells #[.pointer none,.slice none 0 0] 167 (0,0))):=af (by rw [hw4];exact heap_alloc_new wr _);have HKR4:Hid (ag wr w4):=af (by rw [hw4];exact (ag.refl wr).alloc _);try rw [<-hw4]
   clear hw4;have HSG:Hid (∀ W,Lib.BuilderAt 167 5 wr.heap.size wr.heap.size (.pointer (some ⟨wr.heap.size,0,none⟩)) (Lib.byteCells N9) W->ag wr W->Calls Tryz.prog 151 #[.pointer (some ⟨wr.heap.size,0,none⟩)] W fun e w'=>e=.returned (.string ⟨N9.toArray⟩)/\ag wr w'):=af fun W hb hk=>(Go.Proofs.Tryz.Builder_String wr.heap.size wr.heap.size N9 W (.inr hb) HN9.out).mono fun e w' ⟨h1,h2⟩=>⟨h1,hk.app h2⟩
   go_loopg [7] 1 (fun kx s7 W=>((1<=kx/\s7=.int .i64 0/\Hid (W.heap[wr.heap.size]?=some (.cells #[.pointer none,.slice none 0 0] 167 (0,0))))\/(s7=.int .i64 (-1)/\Hid (Lib.BuilderAt 167 5 wr.heap.size wr.heap.size (.pointer (some ⟨wr.heap.size,0,none⟩)) (Lib.byteCells N9) W)))/\Hid (ag wr W))
   case atStart=>exact ⟨.inl ⟨Nat.le_refl _,rfl,HBK4⟩,HKR4⟩
   case round =>
    obtain ⟨hor,HKW⟩:=hrel;rcases hor with ⟨hkx,rfl,HB⟩ | ⟨rfl,HB⟩
    ·have hce:=HKW.out.cell HC3.out;go_wp2_with (go_at_call 149;refine (tU _ _ ⟨N9.toArray⟩ _ (Nat.le_refl _) HB.out (by show N9.toArray.size<=_;rw [List.size_toArray,HLEN.out];omega) HKW.out.size).mono ?_;rintro e w5 ⟨rfl,hb5,hk5⟩;have HB5:=af hb5;have HK5:=af hk5;clear hb5 hk5);go_roundg 0
     case measure=>omega
     case rel=>exact ⟨.inr ⟨by go_num,af HB5.out⟩,af (HKW.out.app HK5.out)⟩
    ·go_wp2_with (first
      | (go_at_call 151;refine (HSG.out _ HB.out HKW.out).mono ?_;rintro e w6 ⟨rfl,hk6⟩;have HK6:=af hk6;clear hk6)
      | (go_at_call 150;refine (HTR.out _).mono ?_;rintro e w7 ⟨rfl,rfl⟩))
     go_ret;exact ⟨rfl,HK2.out.trans (HK.out.trans HK6.out)⟩
theorem yx {q:Rat} (h:q.num≠0):ah (ai q)=(decide (q.num<0),nw q.num.natAbs,nw q.den):=by
 have hv:=gx q;have hc:ai q=⟨decide (q.num<0),nw q.num.natAbs,nw q.den⟩:=by unfold ai;rw [if_neg h]
 unfold ah;rw [if_pos]
 ·rw [hc]
 ·refine ⟨hv,?_⟩;rw [hc];exact fun e=>absurd (cG.1 e) (by omega)
theorem gU (v:Value) (q:Rat) (a b:Nat) (la lb s:List UInt8) (w:World) (hv:RatAt w v (ai q)) (hq:q.num=(a:Int)) (hd:q.den=b) (ha0:a≠0) (ha9:a<1000000000) (hb1:1<b) (hb9:b<1000000000)
  (hla:Lib.trimLeftB (hZ a) 48=la) (hlb:Lib.trimLeftB (hZ b) 48=lb) (hna:la≠[]) (hnb:lb≠[]) (hs:la++47 :: lb=s) :
  Calls Tryz.prog 44 #[v] w fun e w'=>e=.returned (.string ⟨s.toArray⟩)/\ag w w':=by
 have hp:ah (ai q)=(false,[a],[b]):=by
  rw [yx (by rw [hq];omega),hq,hd,Int.natAbs_natCast,oU ha0 (by omega),oU (n:=b) (by omega) (by omega)];simp
 have HPA:Hid (∀ W,ag w W->Calls Tryz.prog 62 #[v] W fun e w'=>(∃ u1 u2,e=.returned (.tuple #[.bool false,u1,u2])/\WdsAt w' u1 [a]/\WdsAt w' u2 [b])/\ag W w'):=af fun W hk=>by
  have hsh:(ai q).Short 1:=by
   have hc:ai q=⟨decide (q.num<0),nw q.num.natAbs,nw q.den⟩:=by unfold ai;rw [if_neg (by rw [hq];omega)]
   rw [hc,hq,hd,Int.natAbs_natCast,oU ha0 (by omega),oU (n:=b) (by omega) (by omega)];exact ⟨Nat.le_refl _,Nat.le_refl _⟩
  have h:=bG v (ai q) W (hv.kept hk) ⟨Nat.le_trans hsh.1 (by omega),Nat.le_trans hsh.2 (by omega)⟩;rw [hp] at h;exact h
 have HTA:=af (fun W u (h:WdsAt W u [a])=>qy u [a] a la W h (by simp [nv]) ha0 ha9 hla hna);have HTB:=af (fun W u (h:WdsAt W u [b])=>qy u [b] b lb W h (by simp [nv]) (by omega) hb9 hlb hnb)
 have HCM:Hid (∀ W u1 u2,WdsAt W u1 [b]->WdsAt W u2 [1]->Calls Tryz.prog 69 #[u1,u2] W fun e w'=>e=.returned (.int .i64 1)/\ag W w'):=af fun W u1 u2 h1 h2=>by
  have h:=dJ u1 u2 [b] [1] W h1 h2;have e1:nv [b]=b:=by simp [nv]
  have e2:nv [1]=1:=rfl;rw [e1,e2] at h;have e3:cN b 1=1:=by unfold cN;rw [if_neg (by omega),if_pos (by omega)]
  rwa [e3] at h
 have HS:Hid ((⟨la.toArray⟩:ByteArray)++((⟨#[47]⟩:ByteArray)++⟨lb.toArray⟩)=⟨s.toArray⟩):=af (by
  apply ByteArray.ext;rw [ByteArray.data_append,ByteArray.data_append];apply Array.toList_inj.1;simp [<-hs])
 have hl9:la.length<=9:=by rw [<-hla,<-eN a];exact (List.dropWhile_sublist _).length_le
 have hl8:lb.length<=9:=by rw [<-hlb,<-eN b];exact (List.dropWhile_sublist _).length_le
 have hz1:¬ 9223372036854775807<1+lb.length:=by omega
 have hz2:¬ 9223372036854775807<la.length+(1+lb.length):=by omega
 obtain ⟨u1,u2,rfl,h1,h2⟩:=hv;obtain ⟨a1,c1,rfl⟩:=h1.shape;obtain ⟨a2,c2,rfl⟩:=h2.shape;generalize (ai q).num.length=n1 at *;generalize (ai q).den.length=n2 at *;generalize (ai q).neg=b0 at *;clear h1 h2 hp hq hd ha0 ha9 hb1 hb9 hla hlb hna hnb hs hl9 hl8;go_enter Tryz.func44,Tryz.ntmps44
 go_wp2_with (first
  | (go_at_call 62;refine (HPA.out _ ((ag.refl w).alloc _)).mono ?_;rintro e w2 ⟨⟨u1,u2,rfl,hu1,hu2⟩,hk2⟩;have HU1:=af hu1;have HU2:=af hu2;have HK2:=af (((ag.refl w).alloc _).trans hk2);clear hu1 hu2 hk2)
  | (go_at_call 92;(with_reducible refine (HTA.out _ _ HU1.out).mono ?_);rintro e w3 ⟨rfl,hk3⟩;have HU3:=af (HU2.out.kept hk3);have HK3:=af (HK2.out.trans hk3);clear hk3)
  | (go_at_call 93;refine (ju _).mono ?_;rintro e w4 ⟨⟨u4,rfl,hu4⟩,hk4⟩;have HU4:=af hu4;have HU5:=af (HU3.out.kept hk4);have HK4:=af (HK3.out.trans hk4);clear hu4 hk4)
  | (go_at_call 69;refine (HCM.out _ _ _ HU5.out HU4.out).mono ?_;rintro e w5 ⟨rfl,hk5⟩;have HU6:=af (HU5.out.kept hk5);have HK5:=af (HK4.out.trans hk5);clear hk5)
  | (go_at_call 92;refine (HTB.out _ _ HU6.out).mono ?_;rintro e w6 ⟨rfl,hk6⟩;have HK6:=af (HK5.out.trans hk6);clear hk6))
 go_ret;exact ⟨by rw [HS.out];rfl,HK6.out⟩
theorem mL (n d:Nat) (w:World) (hn:n<9223372036854775808) (hd:d<9223372036854775808) (hd0:d≠0):Calls Tryz.prog 85 #[.int .i64 n,.int .i64 d] w fun e w'=>(∃ v',e=.returned (.tuple #[v',.nilIface])/\RatAt w' v' (ai (mkRat n d)))/\ag w w':=by
 have HS1:Hid (∀ W,Calls Tryz.prog 142 #[.int .i64 n] W fun e w'=>(∃ v',e=.returned v'/\WdsAt w' v' (nw n))/\ag W w'):=af fun W=>by have h:=rO n W (by omega) (by omega);rw [Int.natAbs_natCast] at h;exact h
 have HS2:Hid (∀ W,Calls Tryz.prog 142 #[.int .i64 d] W fun e w'=>(∃ v',e=.returned v'/\WdsAt w' v' (nw d))/\ag W w'):=af fun W=>by have h:=rO d W (by omega) (by omega);rw [Int.natAbs_natCast] at h;exact h
 obtain ⟨R,hR⟩:∃ R,R=ai (mkRat n d):=⟨_,rfl⟩
 have HFO:Hid (∀ W u1 u2,WdsAt W u1 (nw n)->WdsAt W u2 (nw d)->Calls Tryz.prog 141 #[.bool false,u1,u2] W fun e w'=>(∃ v,e=.returned v/\RatAt w' v R)/\ag W w'):=af fun W u1 u2 k1 k2=>by
  have hl1:(nw n).length<=2:=aJ.2 (by rw [show (4294967296:Nat)^2=18446744073709551616 by rfl];omega);have hl2:(nw d).length<=2:=aJ.2 (by rw [show (4294967296:Nat)^2=18446744073709551616 by rfl];omega);have h:=dy false u1 u2 _ _ W k1 k2 (by omega) (by omega) (by rw [aq];exact hd0);rw [aq,aq,bJ _ _ _ hd0,show sg false n=(n:Int) from rfl,<-hR] at h;exact h
 rw [<-hR];generalize nw n=X at *;generalize nw d=Y at *;obtain ⟨w2,hw2⟩:∃ w2,w2=w.alloc (.cells #[.bool false,.slice none 0 0,.slice none 0 0] 29):=⟨_,rfl⟩;have HR:Hid (aj w2 w.heap.size 29 [.bool false,.slice none 0 0,.slice none 0 0]):=af (by rw [hw2];exact aj.made w #[.bool false,.slice none 0 0,.slice none 0 0] 29);have HFX:Hid (bn w2 w.heap.size [.bool false,.slice none 0 0,.slice none 0 0]):=af (by rw [hw2];exact bn.made w #[.bool false,.slice none 0 0,.slice none 0 0] 29);have HK0:Hid (ag w w2):=af (by rw [hw2];exact (ag.refl w).alloc _);have HW2:=af hw2;have hn0:¬ (n:Int)<0:=by omega
 have hdn:¬ (d:Int)<0:=by omega
 have hdz:((d:Int) == 0)=false:=by simp;omega
 have hdz2:¬ (d:Int)=0:=by omega
 clear hw2 hR hn hd hd0;go_enter Tryz.func85,Tryz.ntmps85;go_wp2_with fail;rw [<-HW2.out];refine (HS1.out _).mono ?_;rintro e w3 ⟨⟨v3,rfl,hv3⟩,hk3⟩;have HV3:=af hv3;have HR3:=af (HR.out.kept hk3);have HF3:=af (HFX.out.kept hk3);have HK3:=af (HK0.out.trans hk3);clear hv3 hk3;go_wp2_with fail;refine (HS2.out _).mono ?_;rintro e w4 ⟨⟨v4,rfl,hv4⟩,hk4⟩;have HV4:=af hv4;have HV3':=af (HV3.out.kept hk4);have HR4:=af (HR3.out.kept hk4);have HF4:=af (HF3.out.kept hk4);have HK4:=af (HK3.out.trans hk4);clear hv4 hk4;go_wp2_with fail;refine (HFO.out _ _ _ HV3'.out HV4.out).mono ?_;rintro e w10 ⟨⟨v10,rfl,hv10⟩,hk10⟩;have hr10:=HR4.out.kept hk10;have HF10:=af (HF4.out.kept hk10);have HK10:=af (HK4.out.trans hk10);obtain ⟨u7,u8,rfl,k7,k8⟩:=hv10;obtain ⟨a7,c7,rfl⟩:=k7.shape;obtain ⟨a8,c8,rfl⟩:=k8.shape;obtain ⟨y0,y1,y2,hra⟩:=aS hr10 HF10.out k7 k8;have g0:=hr10.cell (i:=0) (by simp);have g1:=hr10.cell (i:=1) (by simp);have g2:=hr10.cell (i:=2) (by simp);have f0:=hr10.free 0;have f1:=hr10.free 1;have f2:=hr10.free 2;have HRA:=af hra;have Y0:=af y0;have Y1:=af y1;have Y2:=af y2;clear hra y0 y1 y2 k7 k8 hr10 hk10;generalize R.num.length=n7 at *;generalize R.den.length=n8 at *;go_wp2;refine bodyPost_ret (v:=.tuple #[.agg #[.bool R.neg,.slice a7 n7 c7,.slice a8 n8 c8],.nilIface]) ?_ rfl ⟨⟨_,rfl,HRA.out⟩,?_⟩
 ·simp [results,Tryz.results85,go_sem,Y0.out,Y1.out,Y2.out]
 ·exact ((HK10.out.store (by omega) _ _).store (by omega) _ _).store (by omega) _ _
def Fc (L:List (Nat × Nat)) (ps:List Rw):Nat × Rat :=
 if L.any (fun c=>decide ((ps.length:Int)<=jE (c.1 ||| c.2)))=true then (11,0) else if cK ps=true then (3,0) else (0,Du ps L L.length)
def FW (L0:List (Int × Int)) (ps:List Rw):Nat × Rat:=if Ey L0≠0 then (Ey L0,0) else Fc (L0.map DP) ps
theorem fe {q:Rat} (h0:0<=q) (h1:q<=1):bB (ai q)=true:=by
 rw [pg (dF q),gx,ap]
 have s1:0<=bT q:=by
  unfold bT;by_cases h:q=0
  ·rw [if_pos h];decide
  ·rw [if_neg h,if_neg (by grind)];decide
 have s2:bT (q - ((1:Int):Rat))<=0:=by
  have e:((1:Int):Rat)=1:=rfl;rw [e];unfold bT;by_cases h:q - 1=0
  ·rw [if_pos h];decide
  ·rw [if_neg h,if_pos (by grind)];decide
 rw [decide_eq_true s1,decide_eq_true s2];rfl
theorem qQ {r:Rw} (hw:r.Ok) (h:bB r=true):0<=al r/\al r<=1:=by
 rw [pg hw,Bool.and_eq_true,Bool.and_eq_true,decide_eq_true_eq,decide_eq_true_eq] at h;obtain ⟨_,h1,h2⟩:=h;have e:((1:Int):Rat)=1:=rfl;rw [e] at h2;unfold bT at h1 h2;constructor
 ·split at h1
  ·grind
  ·split at h1 <;> first | grind | omega
 ·split at h2
  ·grind
  ·split at h2 <;> first | grind | omega
theorem pl {ps:List Rw} (hok:∀ r∈ps,r.Ok) (hb:cK ps=false):∀ i,i<ps.length->0<=jp ps i/\jp ps i<=1:=fun i hi=>by
 have e:ps.getD i default=ps[i]:=by simp [List.getD_eq_getElem?_getD,hi]
 unfold jp;rw [e];refine qQ (hok _ (List.getElem_mem hi)) ?_;unfold cK at hb;rw [List.any_eq_false] at hb;have:=hb ps[i] (List.getElem_mem hi);simpa using this
theorem kw {q:Rat} (h1:q.num.natAbs<4294967296) (h2:q.den<4294967296):(ai q).Short 1:=by
 unfold ai;split
 ·exact ⟨Nat.zero_le _,Nat.zero_le _⟩
 ·exact ⟨aJ.2 (by simpa using h1),aJ.2 (by simpa using h2)⟩
def fK:List Rw:=[ai (mkRat 1 10),ai (mkRat 1 5),ai (mkRat 1 4)]
theorem su:∀ r∈fK,r.Short 1:=fun r hr=>by
 simp only [fK,List.mem_cons,List.not_mem_nil,or_false] at hr;rcases hr with rfl | rfl | rfl
 ·exact kw (by decide +kernel) (by decide +kernel)
 ·exact kw (by decide +kernel) (by decide +kernel)
 ·exact kw (by decide +kernel) (by decide +kernel)
theorem mu:∀ r∈fK,r.Short 3:=fun r hr=>⟨Nat.le_trans (su r hr).1 (by omega),Nat.le_trans (su r hr).2 (by omega)⟩
theorem ro:cK fK=false:=by
 unfold cK;rw [List.any_eq_false];intro r hr;simp only [fK,List.mem_cons,List.not_mem_nil,or_false] at hr;rcases hr with rfl | rfl | rfl
 ·rw [fe (by decide +kernel) (by decide +kernel)];simp
 ·rw [fe (by decide +kernel) (by decide +kernel)];simp
 ·rw [fe (by decide +kernel) (by decide +kernel)];simp
set_option linter.unusedSimpArgs false in
theorem DF:c_ [1,6]=0:=by
 obtain ⟨h0,h1,h2,h3,h4,h5,h6,h7⟩:=EI;simp +decide [c_,dg,DS,aC,aQ,jl,dP,aP,gI,aG,h0,h1,h2,h3,h4,h5,h6,h7]
def em (ps:List Rw):List Rw:=ps.map fun r=>ai (1 - al r)
def aO (f:Nat->Rat) (l:List Nat):Rat:=l.foldl (fun a s=>a*(1 - f s)) 1
def aA (f:Nat->Rat) (l:List Nat):Rat:=l.foldl (fun a s=>gb a (f s)) 0
def fQ (ps:List Rw) (s:Nat):Rat:=cF s ps ps.length
def gQ (ps:List Rw) (s:Nat):Rat:=cF s (em ps) (em ps).length
theorem dZ (ps:List Rw):(em ps).length=ps.length:=List.length_map ..
theorem Dg (ps:List Rw) {k:Nat} (hk:k<ps.length):(em ps).getD k default=ai (1 - al (ps.getD k default)):=by
 simp [em,List.getD_eq_getElem?_getD,hk]
theorem Ep (ps:List Rw):∀ r∈em ps,r.Ok:=fun r hr=>by
 obtain ⟨x,_,rfl⟩:=List.mem_map.1 hr;exact dF _
theorem tQ (ps:List Rw) {k:Nat} (hk:k<ps.length):(em ps).take (k+1)=(em ps).take k++[ai (1 - al (ps.getD k default))]:=by
 rw [List.take_succ_eq_append_getElem (by rw [dZ];exact hk)];congr 2;simp [em,List.getD_eq_getElem?_getD,hk]
theorem kG (f:Nat->Rat) (l:List Nat) {k:Nat} (hk:k<l.length):aO f (l.take (k+1))=aO f (l.take k)*(1 - f l[k]):=by
 unfold aO;rw [List.take_succ_eq_append_getElem hk,List.foldl_append];rfl
theorem ji (f:Nat->Rat) (l:List Nat) {k:Nat} (hk:k<l.length):aA f (l.take (k+1))=gb (aA f (l.take k)) (f l[k]):=by
 unfold aA;rw [List.take_succ_eq_append_getElem hk,List.foldl_append];rfl
theorem gh (f:Nat->Rat) (l:List Nat):aO f l=lG f l:=rfl
theorem eM (f:Nat->Rat) (l:List Nat):aA f l=np f l:=by
 unfold aA np;congr 1;funext a s;unfold gb;split <;> split <;> grind
theorem uR {n d:Nat} (hd:d≠0) (h:n<=d):(1:Rat) - mkRat (sg false n) d=mkRat (sg false (d - n)) d:=by
 have e:mkRat (sg false (d - n)) d+mkRat (sg false n) d=1:=by
  rw [Rat.mkRat_add_mkRat _ _ hd hd];have e1:(1:Rat)=mkRat 1 1:=rfl;rw [e1,Rat.mkRat_eq_iff (Nat.mul_ne_zero hd hd) (by decide)];have e2:((d - n:Nat):Int)=(d:Int) - n:=by omega
  simp only [sg]
  push_cast
  grind
 grind
theorem vE {r:Rw} (hw:r.Ok) (h:bB r=true) {k:Nat} (h3:r.Short k) (hk:1<=k):(ai (1 - al r)).Short k:=by
 have hok:=az hw;have hsh:=aB h3 hk;have hu:=qQ hw h
 have h1:(ah r).1=false:=by
  unfold bB at h;simp only [Bool.and_eq_true,Bool.not_eq_true'] at h;unfold ah;split
  ·exact h.1.2
  ·rfl
 have h2:nv (ah r).2.1<=nv (ah r).2.2:=by
  unfold bB at h;simp only [Bool.and_eq_true,decide_eq_true_eq] at h;unfold ah;split
  ·exact h.2
  ·exact Nat.zero_le _
 have e:1 - al r=mkRat (sg false (nv (ah r).2.2 - nv (ah r).2.1)) (nv (ah r).2.2):=by
  unfold al;rw [h1];exact uR hok.2.2.1 h2
 rw [e];exact dl _ hok.2.2.1 (Nat.le_trans (bA (Nat.sub_le _ _)) (rq hok.2.1 hsh.2)) (rq hok.2.1 hsh.2)
theorem zI {ps:List Rw} (h:cK ps=false):∀ r∈ps,bB r=true:=fun r hr=>by
 unfold cK at h;rw [List.any_eq_false] at h;simpa using h r hr
theorem mX {ps:List Rw} (hok:∀ r∈ps,r.Ok) (hb:cK ps=false) {k:Nat} (h3:∀ r∈ps,r.Short k) (hk:1<=k):∀ r∈em ps,r.Short k:=fun r hr=>by
 obtain ⟨x,hx,rfl⟩:=List.mem_map.1 hr;exact vE (hok x hx) (zI hb x hx) (h3 x hx) hk
theorem eO:(ai 1).Short 1:=⟨by decide +kernel,by decide +kernel⟩
theorem cX {x:Rat} {k:Nat} (h:(ai x).Short k) (hk:1<=k):(ai (1 - x)).Short (k+2):=by
 have h2:=yV (dF 1) (dF x) eO h (by decide) hk;rw [ap,ap] at h2;exact ⟨Nat.le_trans h2.1 (by omega),Nat.le_trans h2.2 (by omega)⟩
theorem kH {f:Nat->Rat} {c:Nat} (hc:1<=c):∀ {l:List Nat},(∀ s∈l,(ai (f s)).Short c)->∀ k,k<=l.length->(ai (aO f (l.take k))).Short ((c+2)*k+1):=by
 intro l h k;induction k with
 | zero=>intro _;exact eO
 | succ k ih =>
  intro hk;have hl:k<l.length:=by omega
  rw [kG f l hl];have h2:=mP (dF (aO f (l.take k))) (dF (1 - f l[k])) (ih (by omega)) (cX (h _ (List.getElem_mem hl)) hc) (by omega) (by omega);rw [ap,ap] at h2;have e:(c+2)*(k+1)=(c+2)*k+(c+2):=Nat.mul_succ _ _;exact ⟨Nat.le_trans h2.1 (by omega),Nat.le_trans h2.2 (by omega)⟩
theorem sA {f:Nat->Rat} {c:Nat} (hc:1<=c) {l:List Nat} (h:∀ s∈l,(ai (f s)).Short c):∀ k,k<=l.length->(ai (aA f (l.take k))).Short c:=by
 intro k;induction k with
 | zero=>intro _;exact ⟨by show (ai 0).num.length<=c;exact Nat.le_trans (show (ai 0).num.length<=0 by decide) (by omega),by show (ai 0).den.length<=c;exact Nat.le_trans (show (ai 0).den.length<=0 by decide) (by omega)⟩
 | succ k ih =>
  intro hk;have hl:k<l.length:=by omega
  rw [ji f l hl];unfold gb;split
  ·exact ih (by omega)
  ·exact h _ (List.getElem_mem hl)
theorem gA {ps:List Rw} (hok:∀ r∈ps,r.Ok) (h3:∀ r∈ps,r.Short 3) (h30:ps.length<=30) (s:Nat):(ai (fQ ps s)).Short 91:=by
 have h:=pj (s:=s) h3 hok ps.length (Nat.le_refl _);exact ⟨Nat.le_trans h.1 (by omega),Nat.le_trans h.2 (by omega)⟩
theorem jD {ps:List Rw} (hok:∀ r∈ps,r.Ok) (hb:cK ps=false) (h3:∀ r∈ps,r.Short 3) (h30:ps.length<=30) (s:Nat):(ai (gQ ps s)).Short 91 :=
 gA (Ep ps) (mX hok hb h3 (by decide)) (by rw [dZ];exact h30) s
theorem Ez (ps:List Rw) (s:Nat):fQ ps s=eT (jp ps) ps.length s:=(xe s ps ps.length).symm
theorem sv {q q':Nat->Rat} (s:Nat):∀ n,(∀ i,i<n->q i=q' i)->eT q n s=eT q' n s:=by
 intro n;induction n with
 | zero=>intro _;rfl
 | succ n ih=>intro h;rw [eU,eU,ih fun i hi=>h i (by omega),h n (by omega)]
theorem EB (ps:List Rw) (s:Nat):gQ ps s=gr (jp ps) ps.length s:=by
 show cF s (em ps) (em ps).length=_;rw [<-xe,kS,dZ];exact sv s ps.length fun i hi=>by unfold jp;rw [Dg ps hi,ap]
theorem RatAt.boxc {w:World} {v:Value} {r:Rw} (h:RatAt w v r):∃ n l m a1 c1 a2 c2 w',v=.agg #[.bool n,.slice a1 l c1,.slice a2 m c2]/\w'=w.alloc (.cells #[.bool n,.slice a1 l c1,.slice a2 m c2] 29) /\
  (w'.cell? ⟨w.heap.size,0,none⟩=some (.bool n)/\w'.cell? ⟨w.heap.size,1,none⟩=some (.slice a1 l c1)/\w'.cell? ⟨w.heap.size,2,none⟩=some (.slice a2 m c2)) /\
  RatCell w' w.heap.size r/\ag w w'/\RatAt w' (.agg #[.bool n,.slice a1 l c1,.slice a2 m c2]) r/\w'.heap.size=w.heap.size+1:=by
 obtain ⟨n,l,m,a1,c1,a2,c2,w',rfl,rfl,h1,h2,h3,h4⟩:=h.box;have hr:=aj.made w #[.bool n,.slice a1 l c1,.slice a2 m c2] 29;have q0:=hr.cell (i:=0) (by simp);have q1:=hr.cell (i:=1) (by simp);have q2:=hr.cell (i:=2) (by simp);exact ⟨n,l,m,a1,c1,a2,c2,_,rfl,rfl,⟨q0,q1,q2⟩,h1,h2,h3,h4⟩
theorem eK (v:Value) (r:Rw) (w:World) (hv:RatAt w v r) (hs:r.Short 34359738368):Calls Tryz.prog 47 #[v] w fun e w'=>(∃ v',e=.returned v'/\RatAt w' v' (ai (1 - al r)))/\ag w w':=by
 have HOF:Hid (∀ W,Calls Tryz.prog 96 #[.int .i64 1] W fun e w'=>(∃ v',e=.returned v'/\RatAt w' v' (ai 1))/\ag W w'):=af fun W=>rK 1 W (by omega) (by omega)
 have HSB:Hid (∀ W u1 u2,RatAt W u1 (ai 1)->RatAt W u2 r->Calls Tryz.prog 70 #[u1,u2] W fun e w'=>(∃ v',e=.returned v'/\RatAt w' v' (ai (1 - al r)))/\ag W w'):=af fun W u1 u2 k1 k2=>by
  have h:=tx u1 u2 _ _ W k1 k2 ⟨Nat.le_trans eO.1 (by omega),Nat.le_trans eO.2 (by omega)⟩ ⟨Nat.le_trans hs.1 (by omega),Nat.le_trans hs.2 (by omega)⟩;rw [ap] at h;exact h
 obtain ⟨n1,l1,m1,a1,c1,b1,d1,w1,rfl,hw1,⟨q0,q1,q2⟩,hc1,hk1,ha1,hz1⟩:=hv.boxc;obtain ⟨w2,hw2⟩:∃ w2,w2=w1.alloc (.cells #[.bool false,.slice none 0 0,.slice none 0 0] 29):=⟨_,rfl⟩;have HC:Hid (RatCell w2 (w.heap.size+1) ⟨false,[],[]⟩):=af (by rw [hw2,<-hz1];exact RatCell.zero w1);have hk2:ag w1 w2:=by rw [hw2];exact (ag.refl _).alloc _
 have HX:=af (ha1.kept hk2);have x0:=hk2.cell q0;have x1:=hk2.cell q1;have x2:=hk2.cell q2;have HK2:=af (hk1.trans hk2);have HW2:Hid (w2=(w.alloc (.cells #[.bool n1,.slice a1 l1 c1,.slice b1 m1 d1] 29)).alloc (.cells #[.bool false,.slice none 0 0,.slice none 0 0] 29)):=af (by rw [hw2,hw1]);generalize ai (1 - al r)=R at *;clear hv hw1 hc1 hk1 ha1 hz1 hw2 hk2 q0 q1 q2 hs;go_enter Tryz.func47,Tryz.ntmps47;go_wp2_with fail;rw [<-HW2.out]
 go_region_with (first
  | (go_at_call 96;(with_reducible refine (HOF.out _).mono ?_);rintro e w3 ⟨⟨v3,rfl,hv3⟩,hk3⟩;have hkd:=(ag.refl _).drew.trans hk3;have HV3:=af hv3;have HX3:=af (HX.out.kept hkd);have y0:=hkd.cell x0;have y1:=hkd.cell x1;have y2:=hkd.cell x2;have HC3:=af (HC.out.kept hkd);have HK3:=af (HK2.out.trans hkd);clear hv3 hk3 hkd)
  | (go_at_call 70;(with_reducible refine (HSB.out _ _ _ HV3.out HX3.out).mono ?_);rintro e w4 ⟨⟨v4,rfl,hv4⟩,hk4⟩;have HK4:=af (HK3.out.trans hk4);obtain ⟨n5,l5,m5,a5,c5,b5,d5,w6,rfl,hw6,⟨⟨z0,p0⟩,⟨z1,p1⟩,⟨z2,p2⟩⟩,⟨f0,f1,f2⟩,hl6,Y,HRV,_,HKP⟩:=(HC3.out.kept hk4).save hv4;have HKE:=af (HKP.out _ HK4.out (by omega));rw [hw6] at Y HRV HKE;clear hv4 hk4 hw6 HKP))
 all_goals
  go_wp2;refine bodyPost_ret (v:=.agg #[.bool n5,.slice a5 l5 c5,.slice b5 m5 d5]) ?_ rfl ⟨⟨_,rfl,HRV.out⟩,HKE.out⟩;simp [results,Tryz.results47,go_sem,Y.out.1,Y.out.2.1,Y.out.2.2]
theorem eF (v:Value) (r:Rw) (w:World) (hv:RatAt w v r) (hs:r.Short 34359738368):Calls Tryz.prog 51 #[v] w fun e w'=>(∃ v',e=.returned v'/\RatAt w' v' (ai (1 - al r)))/\ag w w':=by
 have HOF:Hid (∀ W,Calls Tryz.prog 102 #[.int .i64 1] W fun e w'=>(∃ v',e=.returned v'/\RatAt w' v' (ai 1))/\ag W w'):=af fun W=>jM 1 W (by omega)
 have HSB:Hid (∀ W u1 u2,RatAt W u1 (ai 1)->RatAt W u2 r->Calls Tryz.prog 101 #[u1,u2] W fun e w'=>(∃ v',e=.returned v'/\RatAt w' v' (ai (1 - al r)))/\ag W w'):=af fun W u1 u2 k1 k2=>by
  have h:=lR u1 u2 _ _ W k1 k2 ⟨Nat.le_trans eO.1 (by omega),Nat.le_trans eO.2 (by omega)⟩ ⟨Nat.le_trans hs.1 (by omega),Nat.le_trans hs.2 (by omega)⟩;rw [ap] at h;exact h
 obtain ⟨n1,l1,m1,a1,c1,b1,d1,w1,rfl,hw1,⟨q0,q1,q2⟩,hc1,hk1,ha1,hz1⟩:=hv.boxc;obtain ⟨w2,hw2⟩:∃ w2,w2=w1.alloc (.cells #[.bool false,.slice none 0 0,.slice none 0 0] 29):=⟨_,rfl⟩;have HC:Hid (RatCell w2 (w.heap.size+1) ⟨false,[],[]⟩):=af (by rw [hw2,<-hz1];exact RatCell.zero w1);have hk2:ag w1 w2:=by rw [hw2];exact (ag.refl _).alloc _
 have HX:=af (ha1.kept hk2);have x0:=hk2.cell q0;have x1:=hk2.cell q1;have x2:=hk2.cell q2;have HK2:=af (hk1.trans hk2);have HW2:Hid (w2=(w.alloc (.cells #[.bool n1,.slice a1 l1 c1,.slice b1 m1 d1] 29)).alloc (.cells #[.bool false,.slice none 0 0,.slice none 0 0] 29)):=af (by rw [hw2,hw1]);generalize ai (1 - al r)=R at *;clear hv hw1 hc1 hk1 ha1 hz1 hw2 hk2 q0 q1 q2 hs;go_enter Tryz.func51,Tryz.ntmps51;go_wp2_with fail;rw [<-HW2.out]
 go_region_with (first
  | (go_at_call 102;(with_reducible refine (HOF.out _).mono ?_);rintro e w3 ⟨⟨v3,rfl,hv3⟩,hk3⟩;have hkd:=(ag.refl _).drew.trans hk3;have HV3:=af hv3;have HX3:=af (HX.out.kept hkd);have y0:=hkd.cell x0;have y1:=hkd.cell x1;have y2:=hkd.cell x2;have HC3:=af (HC.out.kept hkd);have HK3:=af (HK2.out.trans hkd);clear hv3 hk3 hkd)
  | (go_at_call 101;(with_reducible refine (HSB.out _ _ _ HV3.out HX3.out).mono ?_);rintro e w4 ⟨⟨v4,rfl,hv4⟩,hk4⟩;have HK4:=af (HK3.out.trans hk4);obtain ⟨n5,l5,m5,a5,c5,b5,d5,w6,rfl,hw6,⟨⟨z0,p0⟩,⟨z1,p1⟩,⟨z2,p2⟩⟩,⟨f0,f1,f2⟩,hl6,Y,HRV,_,HKP⟩:=(HC3.out.kept hk4).save hv4;have HKE:=af (HKP.out _ HK4.out (by omega));rw [hw6] at Y HRV HKE;clear hv4 hk4 hw6 HKP))
 all_goals
  go_wp2;refine bodyPost_ret (v:=.agg #[.bool n5,.slice a5 l5 c5,.slice b5 m5 d5]) ?_ rfl ⟨⟨_,rfl,HRV.out⟩,HKE.out⟩;simp [results,Tryz.results51,go_sem,Y.out.1,Y.out.2.1,Y.out.2.2]
theorem fz (s:Nat) (v:Value) (ps:List Rw) (w:World) (hs:s<16777216) (hv:RatsAt w v ps) (hp3:∀ r∈ps,r.Short 3) (hp30:ps.length<=30) :
  Calls Tryz.prog 49 #[.int .i64 s,v] w fun e w'=>(∃ v',e=.returned v'/\RatAt w' v' (ai (fQ ps s)))/\ag w w':=by
 have HOF:Hid (∀ W,Calls Tryz.prog 96 #[.int .i64 1] W fun e w'=>(∃ v',e=.returned v'/\RatAt w' v' (ai (cF s ps 0)))/\ag W w'):=af fun W=>rK 1 W (by omega) (by omega)
 have HH:=af (fun (i:Nat) W=>Ai s i hs W);have HSH:=af (fun n hn=>pj (s:=s) hp3 hv.ok n hn);have HV:=af hv;have HP3:=af hp3;obtain ⟨a,c,rfl⟩:=hv.shape;obtain ⟨n,hn⟩:∃ n,n=ps.length:=⟨_,rfl⟩;rw [<-hn] at HV hp30;have HN:=af hn;obtain ⟨R,hR⟩:∃ R,R=ai (fQ ps s):=⟨_,rfl⟩;rw [<-hR,<-hn];have HRR:Hid (R=ai (cF s ps n)):=af (by rw [hR,hn];rfl);clear hR;obtain ⟨w2,hw2⟩:∃ w2,w2=w.alloc (.cells #[.bool false,.slice none 0 0,.slice none 0 0] 29):=⟨_,rfl⟩;have HZ:Hid (RatCell w2 w.heap.size ⟨false,[],[]⟩):=af (by rw [hw2];exact RatCell.zero w);have HK0:Hid (ag w w2):=af (by rw [hw2];exact (ag.refl w).alloc _);have HW2:=af hw2;clear hn hv hp3 hs hw2;go_enter Tryz.func49,Tryz.ntmps49;go_wp2_with fail;rw [<-HW2.out];refine (HOF.out _).mono ?_;rintro e w3 ⟨⟨v3,rfl,hv3⟩,hk3⟩;have HZ3:=af (HZ.out.kept hk3);have HK3:=af (HK0.out.trans hk3);obtain ⟨n3,l3,m3,a3,c3,b3,d3,w4,rfl,hw4,hc4,hk4,_,_⟩:=hv3.box;have HW4:=af hw4;have HC:=af hc4;have HK4:=af hk4;clear hv3 hk3 hw4 hc4 hk4;go_wp2_with fail;rw [<-HW4.out];go_loopg [11] n (fun kx s10 wr=>∃ k:Nat,k<=n/\s10=.int .i64 k/\n - k<=kx/\Hid (RatCell wr w3.heap.size (ai (cF s ps k)))/\Hid (ag w3 wr))
 case atStart=>exact ⟨0,Nat.zero_le _,rfl,by omega,HC,HK4⟩
 case round =>
  obtain ⟨k,hk,rfl,hkx,HX,HKr⟩:=hrel;by_cases hlt:k<n
  ·have hkn:(k:Int)<(n:Int):=by omega
   have hkl:k<ps.length:=by have:=HN.out;omega
   obtain ⟨b,o,u1,u2,rfl,hrg,hw1,hw2⟩:=HV.out.get k hkl;obtain ⟨a6,c6,rfl⟩:=hw1.shape;obtain ⟨a7,c7,rfl⟩:=hw2.shape;have HKw:=af (HK3.out.trans HKr.out);have hrg2:=bY hrg HKw.out;have hq:RatAt wr (.agg #[.bool (ps.getD k default).neg,.slice a6 (ps.getD k default).num.length c6,.slice a7 (ps.getD k default).den.length c7]) (ps.getD k default):=⟨_,_,rfl,hw1.kept HKw.out,hw2.kept HKw.out⟩
   have hx3:(ps.getD k default).Short 3:=by
    have e:ps.getD k default=ps[k]:=by simp [List.getD_eq_getElem?_getD,hkl]
    rw [e];exact HP3.out _ (List.getElem_mem _)
   have hsk:=HSH.out k (by have:=HN.out;omega);obtain ⟨x,hxx⟩:∃ x,x=ps.getD k default:=⟨_,rfl⟩;have HXX:=af hxx;rw [<-hxx] at hrg2 hq hx3;have HX3:=af hx3;have HSK:=af hsk;obtain ⟨w5,hw5⟩:∃ w5,w5=wr.alloc (.cells #[.bool x.neg,.slice a6 x.num.length c6,.slice a7 x.den.length c7] 29):=⟨_,rfl⟩;have hr5:=aj.made wr #[.bool x.neg,.slice a6 x.num.length c6,.slice a7 x.den.length c7] 29;rw [<-hw5] at hr5;have hk5:ag wr w5:=by rw [hw5];exact (ag.refl _).alloc _
   have q0:=hr5.cell (i:=0) (by simp);have q1:=hr5.cell (i:=1) (by simp);have q2:=hr5.cell (i:=2) (by simp);simp only [List.getElem_cons_succ,List.getElem_cons_zero] at q0 q1 q2;have HQ5:=af (hq.kept hk5);generalize x.neg=y0 at *;generalize x.num.length=y1 at *;generalize x.den.length=y2 at *;have HRG:Hid (wr.rangeAt b (o+k*3) [.bool y0,.slice a6 y1 c6,.slice a7 y2 c7]):=af hrg2;have HK5:=af hk5;have HW5:=af hw5;clear hrg hrg2 hw1 hw2 hq hx3 hsk hxx hw5 hr5 hk5 hkl;cases hb:s.testBit k with
   | false =>
    have HCH:Hid (∀ W,Calls Tryz.prog 98 #[.int .i64 s,.int .i64 k] W fun e w'=>e=.returned (.bool false)/\w'=W):=af fun W=>by have h:=HH.out k W;rw [hb] at h;exact h
    have HST:Hid (cF s ps (k+1)=cF s ps k):=af (by rw [dR,if_neg (by rw [hb];simp)]);clear hb;go_wp2_with (with_reducible refine wpList_load_mid rfl 29 _ rfl b (o+k*3) rfl _ _ HRG.out Tryz.underlying29 rfl (by kernel_rfl) ?_);rw [<-HW5.out];refine (HCH.out _).mono ?_;rintro e w6 ⟨rfl,he6⟩;rw [he6];clear he6;go_wp2_with fail;go_roundg (n - (k+1))
    case measure=>omega
    case rel=>exact ⟨k+1,by omega,by go_num,Nat.le_refl _,af (by rw [HST.out];exact HX.out.kept HK5.out),af (HKr.out.trans HK5.out)⟩
   | true =>
    have HCH:Hid (∀ W,Calls Tryz.prog 98 #[.int .i64 s,.int .i64 k] W fun e w'=>e=.returned (.bool true)/\w'=W):=af fun W=>by have h:=HH.out k W;rw [hb] at h;exact h
    have HML:Hid (∀ W u1 u2,RatAt W u1 (ai (cF s ps k))->RatAt W u2 x->Calls Tryz.prog 97 #[u1,u2] W fun e w'=>(∃ v',e=.returned v'/\RatAt w' v' (ai (cF s ps (k+1))))/\ag W w'):=af fun W u1 u2 k1 k2=>by
     rw [dR,if_pos hb,<-HXX.out];have h:=ts _ _ _ _ W k1 k2 ⟨Nat.le_trans HSK.out.1 (by omega),Nat.le_trans HSK.out.2 (by omega)⟩ ⟨Nat.le_trans HX3.out.1 (by omega),Nat.le_trans HX3.out.2 (by omega)⟩;rw [ap] at h;exact h
    clear hb;obtain ⟨p1,p2,p3,e1,e2,e3,e4,x0,x1,x2,hlx,HXA⟩:=(HX.out.kept HK5.out).read;go_wp2_with (with_reducible refine wpList_load_mid rfl 29 _ rfl b (o+k*3) rfl _ _ HRG.out Tryz.underlying29 rfl (by kernel_rfl) ?_);rw [<-HW5.out];refine (HCH.out _).mono ?_;rintro e w6 ⟨rfl,he6⟩;rw [he6];clear he6;go_wp2_with fail;refine (HML.out _ _ _ HXA.out HQ5.out).mono ?_;rintro e w7 ⟨⟨v7,rfl,hv7⟩,hk7⟩;have hk57:=HK5.out.trans hk7;obtain ⟨n8,l8,m8,a8,c8,b8,d8,w8,rfl,hw8,⟨⟨z0,j0⟩,⟨z1,j1⟩,⟨z2,j2⟩⟩,⟨f0,f1,f2⟩,hl8,_,_,HX8,HKP⟩:=(HX.out.kept hk57).save hv7;have HKE:=af (HKP.out _ (HKr.out.trans hk57) (Nat.le_refl _));have HW8:=af hw8;clear hv7 hk7 hk57 hw8 HKP x0 x1 x2 hlx q0 q1 q2;go_wp2_with fail;rw [<-HW8.out];go_roundg (n - (k+1))
    case measure=>omega
    case rel=>exact ⟨k+1,by omega,by go_num,Nat.le_refl _,HX8,HKE⟩
  ·have hke:k=n:=by omega
   have hkn:¬ (k:Int)<(n:Int):=by omega
   have HX2:Hid (RatCell wr w3.heap.size R):=af (by rw [HRR.out,<-hke];exact HX.out);obtain ⟨p1,p2,p3,e1,e2,e3,e4,x0,x1,x2,hlx,HXA⟩:=HX2.out.read;obtain ⟨n8,l8,m8,a8,c8,b8,d8,w8,he,hw8,⟨⟨z0,j0⟩,⟨z1,j1⟩,⟨z2,j2⟩⟩,⟨f0,f1,f2⟩,hl8,Y,HRV,_,HKP⟩:=(HZ3.out.kept HKr.out).save HXA.out;have HKE:=af (HKP.out _ (HK3.out.trans HKr.out) (Nat.le_refl _));simp only [Value.agg.injEq,Array.mk.injEq,List.cons.injEq,Value.bool.injEq,Value.slice.injEq,and_true] at he;obtain ⟨rfl,⟨rfl,rfl,rfl⟩,rfl,rfl,rfl⟩:=he;rw [hw8] at Y HRV HKE;clear hw8 HKP hke;go_wp2;refine bodyPost_ret (v:=.agg #[.bool p1,.slice e1 p2 e2,.slice e3 p3 e4]) ?_ rfl ⟨⟨_,rfl,HRV.out⟩,HKE.out⟩;simp [results,Tryz.results49,go_sem,Y.out.1,Y.out.2.1,Y.out.2.2]
end Go.Proofs.YtofibjflkebkpaaGreatDoor
