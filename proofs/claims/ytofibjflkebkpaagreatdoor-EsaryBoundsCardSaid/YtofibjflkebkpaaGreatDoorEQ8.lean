import Derived.Test.YtofibjflkebkpaaGreatDoorEQ7
import Derived.Laws.IdiomStrings
set_option maxRecDepth 100000
set_option maxHeartbeats 16000000
namespace Go.Proofs.YtofibjflkebkpaaGreatDoor
open Go.RowKit
theorem Gt (va:Value) (xs:List Int) (w:World) (hv:gU w va xs):Calls Tryz.prog 157 #[va] w fun e w'=>e=.returned (.int .i64 (kS xs))/\w=w':=by
 obtain ⟨a,c,rfl,_,hl,hx⟩:=hv;obtain ⟨m,hm⟩:∃ m,m=xs.length:=⟨_,rfl⟩;rw [<-hm];have ar:m<=140737488355328:=by omega
 have HX:=af hx;have HM:=af hm;clear hx hm hl;by_cases al:m<=1024
 ·have am:¬ (1024:Int)<(m:Int):=by omega
  go_enter Tryz.func157,Tryz.ntmps157;go_wp2;go_loopg [10] m (fun kx s19 wq=>∃ q:Nat,q<=m/\s19=.int .i64 q/\m - q<=kx/\Hid (∀ x∈xs.take q,0<=x/\x<=16777215)/\w=wq)
  case atStart=>exact ⟨0,Nat.zero_le _,rfl,by omega,af (by simp),rfl⟩
  case round =>
   obtain ⟨q,hq,rfl,ah,HF,rfl⟩:=hrel;by_cases aw:q<m
   ·have ah:q<xs.length:=by have:=HM.out;omega
    obtain ⟨b2,o2,rfl,ag⟩:=HX.out q ah;obtain ⟨s,hs⟩:∃ s,s=xs[q]:=⟨_,rfl⟩;rw [<-hs] at ag;have HS:=af hs;have ap:(q:Int)<(m:Int):=by omega
    cases hd:decide (0<=s/\s<=16777215) with
    | true =>
     have ai:Hid (∀ W,Calls Tryz.prog 222 #[.int .i64 s] W fun e w'=>e=.returned (.bool true)/\W=w'):=af fun W=>by have:=qk s W;rwa [hd] at this
     have HD:=af (of_decide_eq_true hd);clear hd hs;go_wp2_with (go_at_call 222;refine (ai.out _).mono ?_;rintro e w' ⟨rfl,rfl⟩);go_roundg (m - (q+1))
     case measure=>omega
     case rel=>exact ⟨q+1,by omega,by go_num,Nat.le_refl _,af (fun y hy=>by
      rw [List.take_succ_eq_append_getElem ah] at hy;rcases List.mem_append.1 hy with hy | hy
      ·exact HF.out y hy
      ·simp at hy;rw [hy,<-HS.out];exact HD.out),rfl⟩
    | false =>
     have ai:Hid (∀ W,Calls Tryz.prog 222 #[.int .i64 s] W fun e w'=>e=.returned (.bool false)/\W=w'):=af fun W=>by have:=qk s W;rwa [hd] at this
     have HD:=af (of_decide_eq_false hd)
     have aj:Hid (kS xs=3):=af (by
      unfold kS;rw [if_neg (by have:=HM.out;omega),if_neg];intro h;exact HD.out (o_.1 h s (by rw [HS.out];exact List.getElem_mem _)))
     clear hd hs;go_wp2_with (go_at_call 222;refine (ai.out _).mono ?_;rintro e w' ⟨rfl,rfl⟩);go_ret;exact ⟨by rw [aj.out];rfl,rfl⟩
   ·have aq:Hid (kS xs=0):=af (by
     have hf:=HF.out;rw [List.take_of_length_le (by have:=HM.out;omega)] at hf;unfold kS;rw [if_neg (by have:=HM.out;omega),if_pos (o_.2 hf)])
    have ap:¬ (q:Int)<(m:Int):=by omega
    go_wp2;go_ret;exact ⟨by rw [aq.out];rfl,rfl⟩
 ·have am:(1024:Int)<(m:Int):=by omega
  have aj:Hid (kS xs=4):=af (by unfold kS;rw [if_pos (by have:=HM.out;omega)]);go_enter Tryz.func157,Tryz.ntmps157;go_wp2;go_ret;exact ⟨by rw [aj.out];rfl,rfl⟩
theorem xt (va:Value) (xs:List Int) (w:World) (hv:gU w va xs) :
  Calls Tryz.prog 99 #[va] w fun e w'=>e=.returned (.int .i64 (ku xs))/\gO w w':=by
 have HL:Hid (Calls Tryz.prog 157 #[va] w fun e w'=>e=.returned (.int .i64 (kS xs))/\w=w'):=af (Gt va xs w hv);have HV:=af hv;obtain ⟨a,c,aH,_⟩:=id hv;subst aH;obtain ⟨m,hm⟩:∃ m,m=xs.length:=⟨_,rfl⟩;rw [<-hm] at HL HV⊢;have HM:=af hm;clear hm hv;rcases Nat.eq_zero_or_pos (kS xs) with he | he
 ·obtain ⟨hl,aD⟩:=Al he;obtain ⟨aw,ay⟩:=qP aD;have ag:ku xs=if iz xs≠iA (iz xs) then 13 else if iz xs≠iy (iz xs) then 2 else 0:=by unfold ku;rw [if_neg (by omega)]
  rw [ag];obtain ⟨ns,az⟩:∃ ns,ns=iz xs:=⟨_,rfl⟩;rw [<-az] at aw ay⊢;have aF:m=ns.length:=by rw [HM.out,az];unfold iz;rw [List.length_map]
  have aA:Hid (gZ w (.slice a m c) ns):=af ⟨by rw [<-aw];exact HV.out,ay⟩;have aI:ns.length<=1024:=by rw [<-aF,HM.out];exact hl
  rw [he] at HL;have aB:Hid (Calls Tryz.prog 157 #[.slice a m c] w fun e w'=>e=.returned (.int .i64 0)/\w=w'):=af HL.out
  have HS:Hid (Calls Tryz.prog 107 #[.slice a m c] w fun e w'=>(∃ v',e=.returned v'/\gU w' v' (ib (iA ns)))/\gO w w'):=af (by
   refine (rM ns.length ns _ w (Nat.le_refl _) aA.out (by omega)).mono ?_;rintro e w' ⟨⟨v',h1,h2⟩,h3⟩;exact ⟨⟨v',h1,h2.sets.1⟩,h3⟩)
  have aG:Hid (∀ W,gO w W->Calls Tryz.prog 159 #[.slice a m c] W fun e w'=>(∃ v',e=.returned v'/\gU w' v' (ib (iy ns)))/\gO W w'):=af fun W hk=>by
   refine (ru ns _ W (aA.out.kept hk) (by omega)).mono ?_;rintro e w' ⟨⟨v',h1,h2⟩,h3⟩;exact ⟨⟨v',h1,h2.sets.1⟩,h3⟩
  have al:Hid (∀ W vb l b,decide (ns=l)=b->gO w W->gU W vb (ib l)->Calls Tryz.prog 158 #[.slice a m c,vb] W fun e w'=>e=.returned (.bool b)/\gO W w'):=af fun W vb l b hb hk hv=>by
   have h:=Hy (ib ns) (ib l) (.slice a m c) vb W (aA.out.kept hk).1 hv;rw [show decide (ib ns=ib l)=b by rw [<-hb];exact decide_eq_decide.2 Ct] at h;exact h
  clear aw ay az hl aD he ag aF aI HL;by_cases h1:ns=iA ns
  ·have D1:Hid (decide (ns=iA ns)=true):=af (decide_eq_true h1);rw [if_neg (fun h=>h h1)];by_cases h2:ns=iy ns
   ·have D2:Hid (decide (ns=iy ns)=true):=af (decide_eq_true h2);rw [if_neg (fun h=>h h2)];clear h1 h2;go_enter Tryz.func99,Tryz.ntmps99
    go_wp2_with (first
     | (go_at_call 157;refine aB.out.mono ?_;rintro e w1 ⟨rfl,rfl⟩)
     | (go_at_call 107;refine HS.out.mono ?_;rintro e w2 ⟨⟨v2,rfl,ah⟩,ai⟩;have am:=af ah;have K2:=af ai;clear ah ai)
     | (go_at_call 158;(with_reducible refine (al.out _ _ _ _ D2.out K4.out aC.out).mono ?_);rintro e w5 ⟨rfl,ap⟩;have K5:=af (K4.out.trans ap);clear ap)
     | (go_at_call 158;(with_reducible refine (al.out _ _ _ _ D1.out K2.out am.out).mono ?_);rintro e w3 ⟨rfl,aj⟩;have K3:=af (K2.out.trans aj);clear aj)
     | (go_at_call 159;refine (aG.out _ K3.out).mono ?_;rintro e w4 ⟨⟨v4,rfl,aq⟩,ar⟩;have aC:=af aq;have K4:=af (K3.out.trans ar);clear ar aq))
    go_ret;exact ⟨rfl,K5.out⟩
   ·have D2:Hid (decide (ns=iy ns)=false):=af (decide_eq_false h2);rw [if_pos h2];clear h1 h2;go_enter Tryz.func99,Tryz.ntmps99
    go_wp2_with (first
     | (go_at_call 157;refine aB.out.mono ?_;rintro e w1 ⟨rfl,rfl⟩)
     | (go_at_call 107;refine HS.out.mono ?_;rintro e w2 ⟨⟨v2,rfl,ah⟩,ai⟩;have am:=af ah;have K2:=af ai;clear ah ai)
     | (go_at_call 158;(with_reducible refine (al.out _ _ _ _ D2.out K4.out aC.out).mono ?_);rintro e w5 ⟨rfl,ap⟩;have K5:=af (K4.out.trans ap);clear ap)
     | (go_at_call 158;(with_reducible refine (al.out _ _ _ _ D1.out K2.out am.out).mono ?_);rintro e w3 ⟨rfl,aj⟩;have K3:=af (K2.out.trans aj);clear aj)
     | (go_at_call 159;refine (aG.out _ K3.out).mono ?_;rintro e w4 ⟨⟨v4,rfl,aq⟩,ar⟩;have aC:=af aq;have K4:=af (K3.out.trans ar);clear ar aq))
    go_ret;exact ⟨rfl,K5.out⟩
  ·have D1:Hid (decide (ns=iA ns)=false):=af (decide_eq_false h1);rw [if_pos h1];clear h1;go_enter Tryz.func99,Tryz.ntmps99
   go_wp2_with (first
    | (go_at_call 157;refine aB.out.mono ?_;rintro e w1 ⟨rfl,rfl⟩)
    | (go_at_call 107;refine HS.out.mono ?_;rintro e w2 ⟨⟨v2,rfl,ah⟩,ai⟩;have am:=af ah;have K2:=af ai;clear ah ai)
    | (go_at_call 158;(with_reducible refine (al.out _ _ _ _ D1.out K2.out am.out).mono ?_);rintro e w3 ⟨rfl,aj⟩;have K3:=af (K2.out.trans aj);clear aj))
   go_ret;exact ⟨rfl,K3.out⟩
 ·have ag:ku xs=kS xs:=by unfold ku;rw [if_pos (by omega)]
  rw [ag];obtain ⟨q,hq⟩:∃ q,q=kS xs:=⟨_,rfl⟩;rw [<-hq] at HL he⊢;have aJ:((q:Int) != 0)=true:=by simp [bne];omega
  have aK:((q:Int) == 0)=false:=by simp;omega
  clear ag hq he;go_enter Tryz.func99,Tryz.ntmps99;go_wp2_with fail;refine HL.out.mono ?_;rintro e w1 ⟨rfl,rfl⟩;go_wp2;go_ret;exact ⟨rfl,gO.refl _⟩
def Kn (ss:List Nat) (ps:List Rw):Nat->Rat
 | 0=>0
 | k+1=>Kn ss ps k+kE (ss.getD k 0) ps ps.length
def KS (xs ys:List Int) (ps:List Rw):Nat × Rat :=
 if ku xs≠0 then (ku xs,0) else if ku ys≠0 then (ku ys,0) else if (iz ys).any (fun s=>decide ((ps.length:Int)<=oy s))=true then (11,0) else if kQ ps=true then (3,0) else (0,Kn (iz ys) ps (iz ys).length)
theorem Ag {xs:List Int} (h:ku xs=0):xs.length<=1024/\Jz xs=true:=by
 unfold ku at h;by_cases he:kS xs=0
 ·exact Al he
 ·rw [if_pos he] at h;exact absurd h he
theorem uQ (xs:List Nat) (va vb:Value) (w:World) (ha:WdsAt w va xs) (hb:WdsAt w vb xs) :
  Calls Tryz.prog 55 #[va,vb] w fun e w'=>e=.returned (.bool true)/\gO w w':=by
 have HA:=af ha;have HB:=af hb;have hl:=ha.len;obtain ⟨a0,c0,rfl⟩:=ha.shape;obtain ⟨a1,c1,rfl⟩:=hb.shape;obtain ⟨n,hn⟩:∃ n,n=xs.length:=⟨_,rfl⟩;rw [<-hn] at HA HB hl⊢;have HN:=af hn;clear ha hb hn;go_enter Tryz.func55,Tryz.ntmps55;go_wp2;go_loopg [13] n (fun kx s13 wr=>∃ k:Nat,k<=n/\s13=.int .i64 k/\n - k<=kx/\Hid (gO w wr))
 case atStart=>exact ⟨0,Nat.zero_le _,rfl,by omega,af (gO.refl _)⟩
 case round =>
  obtain ⟨k,hk,rfl,ai,HK⟩:=hrel;by_cases aj:k<n
  ·have ag:k<xs.length:=by have:=HN.out;omega
   obtain ⟨b1,o1,rfl,h1⟩:=HA.out.get k ag;obtain ⟨b2,o2,rfl,h2⟩:=HB.out.get k ag;have c1':=HK.out.cell h1;have c2':=HK.out.cell h2;generalize xs.getD k 0=x at *;have ah:(k:Int)<(n:Int):=by omega
   have e1:((x:Int) == (x:Int))=true:=by simp
   have e2:((x:Int) != (x:Int))=false:=by simp
   clear h1 h2 ag;go_wp2;go_quiet (fail);go_wp2;go_roundg (n - (k+1))
   case measure=>omega
   case rel=>exact ⟨k+1,by omega,by go_num,Nat.le_refl _,af (HK.out.drewN _)⟩
  ·have ah:¬ (k:Int)<(n:Int):=by omega
   go_wp2;go_ret;exact ⟨rfl,HK.out⟩
theorem zg (va vb:Value) (r:Rw) (w:World) (ha:RatAt w va r) (hb:RatAt w vb r) :
  Calls Tryz.prog 18 #[va,vb] w fun e w'=>e=.returned (.bool true)/\gO w w':=by
 obtain ⟨u1,u2,rfl,h1,h2⟩:=ha;obtain ⟨u3,u4,rfl,h3,h4⟩:=hb;have am:=af (fun W (hk:gO w W)=>uQ r.num u1 u3 W (h1.kept hk) (h3.kept hk));have ap:=af (fun W (hk:gO w W)=>uQ r.den u2 u4 W (h2.kept hk) (h4.kept hk));obtain ⟨a1,c1,rfl⟩:=h1.shape;obtain ⟨a2,c2,rfl⟩:=h2.shape;obtain ⟨a3,c3,rfl⟩:=h3.shape;obtain ⟨a4,c4,rfl⟩:=h4.shape;generalize r.num.length=n1 at *;generalize r.den.length=n2 at *;generalize r.neg=neg at *;obtain ⟨w2,ag⟩:∃ w2,w2=(w.alloc (.cells #[.bool neg,.slice a1 n1 c1,.slice a2 n2 c2] 29)).alloc (.cells #[.bool neg,.slice a3 n1 c3,.slice a4 n2 c4] 29):=⟨_,rfl⟩;have ai:Hid (gO w w2):=af (by rw [ag];exact ((gO.refl w).alloc _).alloc _);have p:=(gS.made w #[.bool neg,.slice a1 n1 c1,.slice a2 n2 c2] 29).kept ((gO.refl _).alloc (.cells #[.bool neg,.slice a3 n1 c3,.slice a4 n2 c4] 29));have q:=gS.made (w.alloc (.cells #[.bool neg,.slice a1 n1 c1,.slice a2 n2 c2] 29)) #[.bool neg,.slice a3 n1 c3,.slice a4 n2 c4] 29;rw [World.size_alloc] at q;rw [<-ag] at p q;have p0:=p.cell (i:=0) (by simp);have p1:=p.cell (i:=1) (by simp);have p2:=p.cell (i:=2) (by simp);have q0:=q.cell (i:=0) (by simp);have q1:=q.cell (i:=1) (by simp);have q2:=q.cell (i:=2) (by simp);simp only [List.getElem_cons_succ,List.getElem_cons_zero] at p0 p1 p2 q0 q1 q2;have HW:=af ag;clear h1 h2 h3 h4 ag p q;go_enter Tryz.func18,Tryz.ntmps18
 go_wp2_with fail;rw [<-HW.out];refine (am.out _ ai.out).mono ?_;rintro e w3 ⟨rfl,ah⟩;have r2:=ah.cell p2;have s2:=ah.cell q2;have aj:=af (ai.out.trans ah);clear ah;go_wp2_with fail;refine (ap.out _ aj.out).mono ?_;rintro e w4 ⟨rfl,al⟩;have aq:=af (aj.out.trans al);clear al;go_wp2;go_ret;exact ⟨rfl,aq.out⟩
def IM (y n:Nat):List Nat->List (Nat × Nat)
 | []=>[]
 | i :: is=>(y,n ||| 2^i) :: IM (y ||| 2^i) n is
def Kf (c:Nat × Nat) (s:Nat):List (Nat × Nat):=if s &&& c.2≠0 then [c] else IM c.1 c.2 (lz (iH s c.1))
def IZ (l:List (Nat × Nat)) (s:Nat):List (Nat × Nat):=l.flatMap fun c=>Kf c s
def Ki (most:Nat):List Nat->List (Nat × Nat)->Option (List (Nat × Nat))
 | [],l=>some l
 | b :: bs,l=>if most<(IZ l b).length then none else Ki most bs (IZ l b)
def EW (pre:List Nat) (out:List (Nat × Nat)):List Nat->Option (List (Nat × Nat))
 | []=>some out
 | s :: r=>match Ki (1024 - out.length) pre [(s,0)] with
  | none=>none
  | some l=>EW (pre++[s]) (out++l) r
def Jl (L:List Nat):Option (List (Nat × Nat)):=EW [] [] L
def Ll (c:Nat × Nat) (s:Nat):Bool:=iE c.1 s&&(c.2 &&& s == 0)
def Ly (l:List (Nat × Nat)) (s:Nat):Nat:=(l.filter fun c=>Ll c s).length
def Lb (c:Nat × Nat):Prop:=c.1<16777216/\c.2<16777216/\c.1 &&& c.2=0
def Kg (a b:Nat × Nat):Bool:=a.1 &&& b.2 == 0&&a.2 &&& b.1 == 0
def EX (q:Nat->Rat):Nat->(Nat->Rat)->Rat
 | 0,F=>F 0
 | n+1,F=>q n*EX q n (fun s=>F (s+2^n))+(1 - q n)*EX q n F
def ind (b:Bool):Rat:=if b=true then 1 else 0
def KO (c:Nat × Nat) (n s:Nat):Bool:=(List.range n).all fun i=>(!c.1.testBit i||s.testBit i)&&(!c.2.testBit i||!s.testBit i)
def wQ (q:Nat->Rat) (c:Nat × Nat):Nat->Rat
 | 0=>1
 | n+1=>(wQ q c n*if c.1.testBit n=true then q n else 1)*if c.2.testBit n=true then 1 - q n else 1
def KG (q:Nat->Rat) (n:Nat) (l:List (Nat × Nat)):Rat:=l.foldl (fun a c=>a+wQ q c n) 0
def K_ (q:Nat->Rat) (s:Nat):Nat->Rat
 | 0=>1
 | n+1=>K_ q s n*if s.testBit n=true then q n else 1 - q n
def GI (F:Nat->Rat):Nat->Rat
 | 0=>0
 | n+1=>GI F n+F n
def Ks:Nat->Nat->Nat
 | _,0=>1
 | 0,_+1=>0
 | n+1,k+1=>Ks n k+Ks n (k+1)
def pQ (q:Nat->Rat) (n c:Nat):Rat:=wQ q (c,0) n
def De (q:Nat->Rat) (n:Nat):List Nat->Nat->Nat->Rat
 | _,0,c=>pQ q n c
 | [],_+1,_=>0
 | s :: l,k+1,c=>De q n l k (c ||| s)+De q n l (k+1) c
def JT (l:List Nat) (ch:Nat):Nat->Nat
 | 0=>0
 | n+1=>if ch.testBit n=true then JT l ch n ||| l.getD n 0 else JT l ch n
def Km (q:Nat->Rat) (n:Nat) (l:List Nat) (k m:Nat):Rat:=GI (fun ch=>if pc ch=k then pQ q n (JT l ch l.length) else 0) m
def Lh (l:List Nat) (s:Nat):Nat:=(l.filter fun t=>iE t s).length
def Kb (N:Nat):Nat->Rat
 | 0=>0
 | k+1=>if (k+1) % 2=1 then Kb N k+((Ks N (k+1):Nat):Rat) else Kb N k - ((Ks N (k+1):Nat):Rat)
def ED (q:Nat->Rat) (n:Nat) (l:List Nat):Nat->Rat
 | 0=>0
 | k+1=>if (k+1) % 2=1 then ED q n l k+De q n l (k+1) 0 else ED q n l k - De q n l (k+1) 0
def mH (a b:Rat):Rat:=if b<=a then a else b
def mI (a b:Rat):Rat:=if a<=b then a else b
def EM (q:Nat->Rat) (n:Nat) (l:List Nat):Nat->Rat
 | 0=>0
 | k+1=>if (k+1) % 2=0 then mH (EM q n l k) (ED q n l (k+1)) else EM q n l k
def EL (q:Nat->Rat) (n:Nat) (l:List Nat):Nat->Rat
 | 0=>1
 | k+1=>if (k+1) % 2=0 then EL q n l k else mI (EL q n l k) (ED q n l (k+1))
def Ac (c:Int × Int):List Value:=[.int .i64 c.1,.int .i64 c.2]
abbrev Lj (c:Int × Int):Value:=.agg #[.int .i64 c.1,.int .i64 c.2]
def Lq (c:Nat × Nat):Int × Int:=((c.1:Int),(c.2:Int))
def Lr (l:List (Nat × Nat)):List (Int × Int):=l.map Lq
def KL (w:World) (v:Value) (L:List (Int × Int)):Prop :=
 ∃ (a:Option Addr) (c:Nat),v=.slice a L.length c/\(L.length<=c/\(a=none->c=0))/\L.length<=1099511627776 /\
  ∀ i (h:i<L.length),∃ b o,a=some ⟨b,o,none⟩/\w.rangeAt b (o+i*2) (Ac L[i])
def Kx (w:World) (B:Nat) (v:Value) (L:List (Int × Int)):Prop :=
 w.ownsRow B 114 2 v L.length (L.flatMap Ac)/\L.length<=1099511627776
def sN (u:Value):Prop:=∀ x,u≠.int .u32 x
def vj (w:World) (g:Nat):Prop:=∀ cur e fr,w.heap[g]?=some (.cells cur e fr)->∀ u∈cur.toList,sN u
theorem xg {w:World} {g:Nat} {cur:Array Value} {e:TypeId} {fr:Nat × Nat} (h:w.heap[g]?=some (.cells cur e fr)) (hc:∀ u∈cur.toList,sN u):vj w g:=by
 intro c e2 f2 h2;rw [h] at h2;cases h2;exact hc
theorem Ii (w:World) (cs:Array Value) (e:TypeId) (hc:∀ u∈cs.toList,sN u):vj (w.alloc (.cells cs e)) w.heap.size:=xg (heap_alloc_new w _) hc
theorem vj.same {w w':World} {g:Nat} (h:vj w g) (hk:w'.heap[g]?=w.heap[g]?):vj w' g:=fun cur e fr h2=>h cur e fr (by rw [<-hk];exact h2)
theorem vj.cell {w:World} {g i:Nat} {u:Value} (h:vj w g) (hc:w.cell? ⟨g,i,none⟩=some u):sN u:=by
 simp only [World.cell?] at hc;cases hg:w.heap[g]? with
 | none=>rw [hg] at hc;simp at hc
 | some o =>
  cases o with
  | cells cur e fr =>
   rw [hg] at hc;simp only at hc
   exact h cur e fr hg u (by
    have:=Array.getElem?_eq_some_iff.1 hc;obtain ⟨h1,h2⟩:=this;rw [<-h2];exact Array.mem_toList_iff.2 (Array.getElem_mem h1))
  | _=>rw [hg] at hc;simp at hc
theorem pq {z:Array Value} {n:Nat} {u:Value} (h:u∈(Builtin.zeroCells z n).toList):u∈z.toList:=by
 unfold Builtin.zeroCells at h;simp at h;obtain ⟨k,hk,e⟩:=h
 have hz:0<z.size:=by
  rcases Nat.eq_zero_or_pos z.size with h0 | h0
  ·rw [h0] at hk;omega
  ·exact h0
 have ag:k % z.size<z.size:=Nat.mod_lt _ hz;rw [<-e,getElem!_pos z _ ag];exact Array.mem_toList_iff.2 (Array.getElem_mem ag)
theorem uG {P:Program} (w:World) (base:Nat) (t ty e:TypeId) (i:TypeInfo) (z:Value) (size bytes:Nat) (ht:P.underlying t=some (.slice e)) (hi:P.info? e=some i) (hz:i.zero=some z)
  (aj:i.size=size) (aA:i.bytes=bytes) (aD:z.cells.size=size) (hsz:0<size)
  (v:Value) (n:Nat) (xs:List Value) (ai:w.ownsRow base e size v n xs)
  (a:Addr) (m c:Nat) (news:List Value) (hl:news.length=m*size) (ah:∀ j u,news[j]?=some u->w.cell? (a.add j)=some u) (h1:∀ u∈news,u.oneCell'=true)
  (aB:n+m<=maxLen) (ag:(n+m)*bytes<=140737488355328) (ap:base<=w.heap.size)
  (aF:∀ g,v.ownBlock=some g->vj w g) (aw:∀ u∈news,sN u) (aC:∀ u∈z.cells.toList,sN u) :
  ∃ v' w',(Builtin.append_ #[t,t] ty #[v,.slice (some a) m c]).run P w=.ok v' w'/\w'.ownsRow base e size v' (n+m) (xs++news)/\w.grownBy w' v.ownBlock/\∀ g,v'.ownBlock=some g->vj w' g:=by
 obtain ⟨v',w',hr,h2,h3,h4⟩:=run_append_own (P:=P) w base t ty e i z size bytes ht hi hz aj aA aD hsz v n xs ai a m c news hl ah h1 aB ag ap;refine ⟨v',w',hr,h2,h3,?_⟩;subst aj;subst aA
 have ay:n+m<=9223372036854775807:=by simp only [maxLen] at aB;omega
 intro k hk;rcases ai.2 with ⟨rfl,rfl⟩ | ⟨g,cap,cur,rfl,aH,hg,aI,aJ,aG,aq⟩
 ·have hx:xs=[]:=List.eq_nil_of_length_eq_zero (by simpa using ai.1);subst hx;by_cases hm:m=0
  ·subst hm;have:=h4.2 ⟨rfl,rfl⟩;subst this;simp [Value.ownBlock] at hk
  ·have ar:=run_append_nil (P:=P) w t ty e i z ht hi hz a m c news hl ah (by omega) (by omega) (by have hb:=ag;simp only [Nat.zero_add] at hb;omega);have e1:=hr.symm.trans ar;injection e1 with e2 e3
   subst e2 e3;simp only [Value.ownBlock,Option.some.injEq] at hk;subst hk;refine xg (cur:=news.toArray++Builtin.zeroCells z.cells (grownCap w m 0 e - m)) (e:=e) (fr:=(0,0)) (by have:=heap_alloc_new w.drew (.cells (news.toArray++Builtin.zeroCells z.cells (grownCap w m 0 e - m)) e);exact this) fun u hu=>?_
   rw [Array.toList_append] at hu;rcases List.mem_append.1 hu with hu | hu
   ·exact aw u (by simpa using hu)
   ·exact aC u (pq hu)
 ·have am:=aF g (by simp [Value.ownBlock]) cur e (0,0) hg;by_cases al:n+m<=cap
  ·have az:n*i.size+news.length<=cur.size:=by rw [hl,aG,<-Nat.add_mul];exact Nat.mul_le_mul_right _ al
   have ar:=run_append_room (P:=P) w t ty e i ht hi g n cap cur hg a m c news hl ah h1 al az;have e1:=hr.symm.trans ar;injection e1 with e2 e3
   subst e2 e3;simp only [Value.ownBlock,Option.some.injEq] at hk;subst hk;refine xg (setRow_heap w g cur _ e _ hg) fun u hu=>?_
   rcases List.mem_append.1 hu with hu | hu
   ·rcases List.mem_append.1 hu with hu | hu
    ·exact am u (List.mem_of_mem_take hu)
    ·exact aw u hu
   ·exact am u (List.mem_of_mem_drop hu)
  ·have holds:∀ j u,xs[j]?=some u->w.cell? ((⟨g,0,none⟩:Addr).add j)=some u:=ai.cells (g:=g) rfl;have ar:=run_append_grow (P:=P) w t ty e i z ht hi hz ⟨g,0,none⟩ n cap xs ai.1 holds a m c news hl ah (by omega) (by omega) (growslice_fits (by omega) ag);have e1:=hr.symm.trans ar;injection e1 with e2 e3
   subst e2 e3;simp only [Value.ownBlock,Option.some.injEq] at hk;subst hk;refine xg (heap_alloc_new w.drew _) fun u hu=>?_
   rw [Array.toList_append,Array.toList_append] at hu;rcases List.mem_append.1 hu with hu | hu
   ·rcases List.mem_append.1 hu with hu | hu
    ·have hu:u∈xs:=by simpa using hu
     rw [<-aq] at hu;exact am u (List.mem_of_mem_take hu)
    ·exact aw u (by simpa using hu)
   ·exact aC u (pq hu)
theorem nd {P:Program} {o:Oper} {a:Act} {K:Act->World->Prop} {Q:Exit->Act->World->Prop} (w:World) (s x:Operand) (t:TypeId)
  (ho:o.op=.call { callee:=.builtin .append,args:=#[s,x],argTypes:=#[t,t] })
  (base:Nat) (e:TypeId) (i:TypeInfo) (z:Value) (size bytes:Nat) (ht:P.underlying t=some (.slice e)) (hi:P.info? e=some i) (hz:i.zero=some z)
  (ah:i.size=size) (am:i.bytes=bytes) (ap:z.cells.size=size) (hsz:0<size)
  (v:Value) (n:Nat) (xs:List Value) (hs:a.eval s=v) (al:w.ownsRow base e size v n xs)
  (ad:Addr) (m c:Nat) (news:List Value) (hx:a.eval x=.slice (some ad) m c) (hl:news.length=m*size) (ai:∀ j u,news[j]?=some u->w.cell? (ad.add j)=some u) (h1:∀ u∈news,u.oneCell'=true)
  (aq:n+m<=maxLen) (ag:(n+m)*bytes<=140737488355328) (aj:base<=w.heap.size)
  (ar:∀ g,v.ownBlock=some g->vj w g) (aw:∀ u∈news,sN u) (ay:∀ u∈z.cells.toList,sN u)
  (h:∀ v' w',w'.ownsRow base e size v' (n+m) (xs++news)->w.grownBy w' v.ownBlock->(∀ g,v'.ownBlock=some g->vj w' g)->K (a.put o.dst v') w'):o.wp P a w K Q:=by
 obtain ⟨v',w',hr,h2,h3,h4⟩:=uG (P:=P) w base t o.type e i z size bytes ht hi hz ah am ap hsz v n xs al ad m c news hl ai h1 aq ag aj ar aw ay;unfold Oper.wp execOp;simp only [ho,resolve,invoke,builtin,Sem.run_bind,Sem.run_pure,Result.andThen_ok,List.map_toArray,List.map_cons,List.map_nil,hs,hx,hr];exact h v' w' h2 h3 h4
theorem WdsAt.only {w w':World} {g:Option Nat} {v:Value} {xs:List Nat} (h:WdsAt w v xs) (hr:∀ k,g=some k->vj w k) (ho:∀ k,k<w.heap.size->some k≠g->w'.heap[k]?=w.heap[k]?):WdsAt w' v xs:=by
 obtain ⟨a,c,h1,h2,h3,h4,h5⟩:=h;refine ⟨a,c,h1,h2,h3,h4,fun i hi=>?_⟩;obtain ⟨b,o,h6,h7⟩:=h5 i hi;refine ⟨b,o,h6,?_⟩;have ag:some b≠g:=fun e=>(hr b e.symm).cell h7 _ rfl
 have ah:b<w.heap.size:=by
  rcases Nat.lt_or_ge b w.heap.size with h8 | h8
  ·exact h8
  ·simp [World.cell?,Array.getElem?_eq_none h8] at h7
 have:=ho b ah ag;simp only [World.cell?,this] at h7⊢;exact h7
abbrev xW:=Rw × Value × Value
def pw (x:xW):List Value:=[.bool x.1.neg,x.2.1,x.2.2]
def ox (w:World) (x:xW):Prop:=WdsAt w x.2.1 x.1.num/\WdsAt w x.2.2 x.1.den
theorem ox.kept {w w':World} {x:xW} (h:ox w x) (hk:gO w w'):ox w' x:=⟨h.1.kept hk,h.2.kept hk⟩
theorem ox.only {w w':World} {g:Option Nat} {x:xW} (h:ox w x) (hr:∀ k,g=some k->vj w k) (ho:∀ k,k<w.heap.size->some k≠g->w'.heap[k]?=w.heap[k]?):ox w' x:=⟨h.1.only hr ho,h.2.only hr ho⟩
def OwnRats (w:World) (B:Nat) (v:Value) (rs:List Rw):Prop :=
 ∃ L:List xW,L.map Prod.fst=rs/\w.ownsRow B 29 3 v L.length (L.flatMap pw)/\L.length<=1099511627776/\(∀ g,v.ownBlock=some g->vj w g)/\∀ x∈L,ox w x
theorem FI {w w':World} {B n:Nat} {e:TypeId} {s:Nat} {v:Value} {xs:List Value} (h:w.ownsRow B e s v n xs) (hn:∀ g,v.ownBlock=some g->vj w g) (hk:gO w w'):∀ g,v.ownBlock=some g->vj w' g :=
 fun g hg=>(hn g hg).same (hk.block g (h.lt g hg).2)
theorem OwnRats.kept {w w':World} {B:Nat} {v:Value} {rs:List Rw} (h:OwnRats w B v rs) (hk:gO w w'):OwnRats w' B v rs:=by
 obtain ⟨L,h1,h2,h3,h4,h5⟩:=h;exact ⟨L,h1,lT h2 hk,h3,FI h2 h4 hk,fun x hx=>(h5 x hx).kept hk⟩
theorem OwnRats.nil (w:World) (B:Nat):OwnRats w B (.slice none 0 0) []:=⟨[],rfl,World.ownsRow_nil _ _ _ _,by simp,fun g hg=>by simp [Value.ownBlock] at hg,fun x hx=>by cases hx⟩
theorem Ju (L:List xW):(L.flatMap pw).length=L.length*3:=by
 induction L with
 | nil=>rfl
 | cons c L ih=>simp [pw,ih];omega
theorem GA (L:List xW):∀ i (h:i<L.length) j,j<3->(L.flatMap pw)[i*3+j]?=(pw L[i])[j]?:=by
 induction L with
 | nil=>intro i h;simp at h
 | cons c L ih =>
  intro i h j hj;rw [List.flatMap_cons];cases i with
  | zero=>rw [List.getElem?_append_left (by simp [pw];omega)];simp
  | succ i =>
   rw [List.getElem?_append_right (by simp [pw];omega),show (pw c).length=3 from rfl,show (i+1)*3+j - 3=i*3+j by omega];exact ih i (by simpa using h) j hj
theorem WdsAt.cell1 {w:World} {v:Value} {xs:List Nat} (h:WdsAt w v xs):v.oneCell'=true/\sN v:=by
 obtain ⟨a,c,rfl⟩:=h.shape;exact ⟨rfl,fun x h=>by cases h⟩
theorem Bp {w:World} {L:List xW} (h:∀ x∈L,ox w x):∀ u∈L.flatMap pw,u.oneCell'=true/\sN u:=fun u hu=>by
 obtain ⟨c,hc,h2⟩:=List.mem_flatMap.1 hu;simp [pw] at h2;rcases h2 with rfl | rfl | rfl
 ·exact ⟨rfl,fun x h=>by cases h⟩
 ·exact (h c hc).1.cell1
 ·exact (h c hc).2.cell1
theorem OwnRats.at {w:World} {B:Nat} {v:Value} {rs:List Rw} (h:OwnRats w B v rs):RatsAt w v rs:=by
 obtain ⟨L,rfl,⟨h1,h2⟩,h3,_,h5⟩:=h;have hl:(L.map Prod.fst).length=L.length:=List.length_map ..;rcases h2 with ⟨rfl,h6⟩ | ⟨g,cap,cur,rfl,h6,h7,h8,h9,ai,ag⟩
 ·have:L=[]:=List.eq_nil_of_length_eq_zero h6
  subst this;exact ⟨none,0,rfl,⟨by simp,fun _=>rfl⟩,by simp,fun i h=>by simp at h⟩
 ·refine ⟨some ⟨g,0,none⟩,cap,by rw [hl],⟨by rw [hl];exact h8,fun h=>by cases h⟩,by rw [hl];omega,fun i hi=>?_⟩;have hi':i<L.length:=by rw [hl] at hi;exact hi
  refine ⟨g,0,L[i].2.1,L[i].2.2,rfl,fun j u hj=>?_,by rw [List.getElem_map];exact (h5 _ (List.getElem_mem hi')).1,by rw [List.getElem_map];exact (h5 _ (List.getElem_mem hi')).2⟩;rw [List.getElem_map] at hj
  have ah:j<3:=by
   have:=(List.getElem?_eq_some_iff.1 hj).1;simpa using this
  have e1:(cur.toList.take (L.length*3))[i*3+j]?=(L.flatMap pw)[i*3+j]?:=by rw [ag]
  rw [List.getElem?_take_of_lt (by omega),GA L i hi' j ah] at e1;have e2:(pw L[i])[j]?=some u:=hj;rw [e2] at e1;simp only [World.cell?,h7,Nat.zero_add];simpa using e1
theorem tB:(Tryz.prog.info? 29).map (fun i=>(i.zero,i.size,i.bytes))=some (some (.agg #[.bool false,.slice none 0 0,.slice none 0 0]),3,56):=by kernel_rfl
theorem uR:∀ u∈(Value.agg #[.bool false,.slice none 0 0,.slice none 0 0]).cells.toList,sN u:=fun u hu=>by
 have:u=.bool false\/u=.slice none 0 0\/u=.slice none 0 0:=by simpa [Value.cells] using hu
 rcases this with rfl | rfl | rfl <;> exact fun x h=>by cases h
theorem OwnRats.more {w w':World} {B:Nat} {v v':Value} {rs:List Rw} {L:List xW} (h1:L.map Prod.fst=rs) (h3:L.length<1099511627776) (_h2:w.ownsRow B 29 3 v L.length (L.flatMap pw)) (h4:∀ g,v.ownBlock=some g->vj w g) (h5:∀ x∈L,ox w x) (x:xW) (hx:ox w x)
  (h6:w'.ownsRow B 29 3 v' (L.length+1) (L.flatMap pw++pw x)) (h7:w.grownBy w' v.ownBlock) (h8:∀ g,v'.ownBlock=some g->vj w' g):OwnRats w' B v' (rs++[x.1]):=by
 refine ⟨L++[x],by rw [List.map_append,h1];rfl,?_,by simp;omega,h8,fun y hy=>?_⟩
 ·rw [List.length_append,List.flatMap_append];simpa using h6
 ·rcases List.mem_append.1 hy with hy | hy
  ·exact (h5 y hy).only h4 h7.block
  ·rw [List.mem_singleton] at hy;rw [hy];exact hx.only h4 h7.block
theorem Kl {ops:Array Oper} {o:Oper} {a:Act} {K:Act->World->Prop} {Q:Exit->Act->World->Prop} {E:Prop} {w:World} (aj:o.guard=none) (s x:Operand)
  (ho:o.op=.call { callee:=.builtin .append,args:=#[s,x],argTypes:=#[23,23] }) (B:Nat) (v:Value) (rs:List Rw) (hs:a.eval s=v) (ah:OwnRats w B v rs)
  (g:Nat) (r:Rw) (u1 u2:Value) (hx:a.eval x=.slice (some ⟨g,0,none⟩) 1 1) (hu:w.rangeAt g 0 [.bool r.neg,u1,u2]) (al:WdsAt w u1 r.num) (am:WdsAt w u2 r.den) (hl:rs.length<1099511627776) (hB:B<=w.heap.size)
  (h:∀ v' w',OwnRats w' B v' (rs++[r])->Below B w w'->K (a.put o.dst v') w'):if Region.wanted o (yielded ops a.tmps)=true then Oper.wp Tryz.prog o a w K Q else E:=by
 have hw:Region.wanted o (yielded ops a.tmps)=true:=by simp [Region.wanted,aj]
 rw [if_pos hw];obtain ⟨i0,ap,aq,ar,aw⟩:=info_parts tB;obtain ⟨L,h1,h2,h3,h4,h5⟩:=ah;have az:L.length=rs.length:=by rw [<-h1,List.length_map]
 have ai:ox w (r,u1,u2):=⟨al,am⟩;have ag:=Bp (L:=[(r,u1,u2)]) (w:=w) fun y hy=>by rw [List.mem_singleton] at hy;rw [hy];exact ai
 have ay:([(r,u1,u2)]:List xW).flatMap pw=[.bool r.neg,u1,u2]:=rfl;rw [ay] at ag;refine nd w s x 23 ho B 29 i0 _ 3 56 Tryz.underlying23 ap aq ar aw rfl (by decide) v L.length _ hs h2 ⟨g,0,none⟩ 1 1 [.bool r.neg,u1,u2] hx (by simp) ?_ (fun u hu=>(ag u hu).1) (by simp [maxLen];omega) (by omega) hB h4 (fun u hu=>(ag u hu).2) uR ?_
 ·intro j u hj;have:=hu j u hj;rw [show ({ block:=g,off:=0 }:Addr).add j=⟨g,0+j,none⟩ by unfold Addr.add;split <;> simp_all];exact this
 ·intro v' w' h6 h7 h8;exact h v' w' (OwnRats.more h1 (by omega) h2 h4 h5 (r,u1,u2) ai h6 h7 h8) (iD h7 h2 hB)
theorem wE {ops:Array Oper} {rest:List Oper} {o:Oper} {a:Act} {Q:Exit->Act->World->Prop} {w:World} (aj:o.guard=none) (s x:Operand)
  (ho:o.op=.call { callee:=.builtin .append,args:=#[s,x],argTypes:=#[23,23] }) (B:Nat) (v:Value) (rs:List Rw) (hs:a.eval s=v) (ah:OwnRats w B v rs)
  (g:Nat) (r:Rw) (u1 u2:Value) (hx:a.eval x=.slice (some ⟨g,0,none⟩) 1 1) (hu:w.rangeAt g 0 [.bool r.neg,u1,u2]) (al:WdsAt w u1 r.num) (am:WdsAt w u2 r.den) (hl:rs.length<1099511627776) (hB:B<=w.heap.size)
  (h:∀ v' w',OwnRats w' B v' (rs++[r])->Below B w w'->wpList Tryz.prog ops Q rest (a.put o.dst v') w'):wpList Tryz.prog ops Q (o :: rest) a w:=by
 obtain ⟨i0,ap,aq,ar,aw⟩:=info_parts tB;obtain ⟨L,h1,h2,h3,h4,h5⟩:=ah;have az:L.length=rs.length:=by rw [<-h1,List.length_map]
 have ai:ox w (r,u1,u2):=⟨al,am⟩;have ag:=Bp (L:=[(r,u1,u2)]) (w:=w) fun y hy=>by rw [List.mem_singleton] at hy;rw [hy];exact ai
 have ay:([(r,u1,u2)]:List xW).flatMap pw=[.bool r.neg,u1,u2]:=rfl;rw [ay] at ag;refine wpList_plain aj fun _ hK=>nd w s x 23 ho B 29 i0 _ 3 56 Tryz.underlying23 ap aq ar aw rfl (by decide) v L.length _ hs h2 ⟨g,0,none⟩ 1 1 [.bool r.neg,u1,u2] hx (by simp) ?_ (fun u hu=>(ag u hu).1) (by simp [maxLen];omega) (by omega) hB h4 (fun u hu=>(ag u hu).2) uR ?_
 ·intro j u hj;have:=hu j u hj;rw [show ({ block:=g,off:=0 }:Addr).add j=⟨g,0+j,none⟩ by unfold Addr.add;split <;> simp_all];exact this
 ·intro v' w' h6 h7 h8;exact hK _ _ (h v' w' (OwnRats.more h1 (by omega) h2 h4 h5 (r,u1,u2) ai h6 h7 h8) (iD h7 h2 hB))
def II (c:Int × Int):Nat:=if (0<=c.1/\c.1<16777216)/\0<=c.2/\c.2<16777216 then (if c.1.toNat &&& c.2.toNat≠0 then 6 else 0) else 3
def Ci:List (Int × Int)->Nat
 | []=>0
 | c :: l=>if II c≠0 then II c else Ci l
def Jw (c:Int × Int):Nat × Nat:=(c.1.toNat,c.2.toNat)
def Kz (L:List (Int × Int)) (i m:Nat):Bool:=(List.range m).any fun j=>Kg (Jw (L.getD i default)) (Jw (L.getD j default))
def KA (L:List (Int × Int)) (m:Nat):Bool:=(List.range m).any fun i=>Kz L i i
def Kc (L:List (Int × Int)):Nat:=if 1024<L.length then 4 else if Ci L≠0 then Ci L else if KA L L.length=true then 21 else 0
def Ip (ps:List Rw) (i:Nat):Rat:=gT (ps.getD i default)
def LD (ps:List Rw) (c:Nat × Nat) (n:Nat):Rat:=wQ (Ip ps) c n
def IY (ps:List Rw) (l:List (Nat × Nat)) (k:Nat):Rat:=KG (Ip ps) ps.length (l.take k)
def Js (xs:List Int) (ps:List Rw) (k:Int):Nat :=
 if ku xs≠0 then ku xs else if 12<xs.length then 4 else if (iz xs).any (fun s=>decide ((ps.length:Int)<=oy s))=true then 11 else if kQ ps=true then 3 else if k<0\/12<k then 3 else 0
def KF (ps:List Rw) (l:List Nat) (k m:Nat):Rat:=Km (Ip ps) ps.length l k m
def Ke (ps:List Rw) (l:List Nat) (k:Nat):Rat:=De (Ip ps) ps.length l k 0
def Lm (ps:List Rw) (l:List Nat) (k c:Nat):Rat:=De (Ip ps) ps.length l k c
def Jb (ps:List Rw) (l:List Nat) (k:Nat):Rat:=ED (Ip ps) ps.length l k
theorem Ec {r s:Rw} (hr:r.Ok) (hs:s.Ok) {k l:Nat} (h1:r.Short k) (h2:s.Short l) (hk:1<=k) (hl:1<=l):(gR (gT r - gT s)).Short (k+l+1):=by
 have h:=rN hr (ls (- gT s)) h1 (lM hs h2 hl) hk hl;rw [gV,<-Rat.sub_eq_add_neg] at h;exact h
def KU (ps:List Rw) (l:List Nat) (k:Nat):Rat:=EM (Ip ps) ps.length l k
def KR (ps:List Rw) (l:List Nat) (k:Nat):Rat:=EL (Ip ps) ps.length l k
def ArrAt (w:World) (g:Nat) (e:TypeId) (rs:List Rw):Prop :=
 ∃ L:List xW,L.map Prod.fst=rs/\gS w g e (L.flatMap pw)/\iX w g (L.flatMap pw)/\∀ x∈L,ox w x
theorem ArrAt.kept {w w':World} {g:Nat} {t:TypeId} {rs:List Rw} (h:ArrAt w g t rs) (hk:gO w w'):ArrAt w' g t rs:=by
 obtain ⟨L,h1,h2,h3,h4⟩:=h;exact ⟨L,h1,h2.kept hk,h3.kept hk,fun x hx=>(h4 x hx).kept hk⟩
theorem uI {w:World} {L:List xW} (h:∀ x∈L,ox w x):∀ k x,Value.int k x ∉ L.flatMap pw:=by
 intro k x hx;obtain ⟨c,hc,h2⟩:=List.mem_flatMap.1 hx;obtain ⟨a1,c1,e1⟩:=(h c hc).1.shape;obtain ⟨a2,c2,e2⟩:=(h c hc).2.shape;simp [pw,e1,e2] at h2
theorem Bq (L:List xW) (y:xW):∀ i,i<L.length->(L.set i y).flatMap pw=(((L.flatMap pw).set (i*3) (.bool y.1.neg)).set (i*3+1) y.2.1).set (i*3+2) y.2.2:=by
 induction L with
 | nil=>intro i h;simp at h
 | cons c L ih =>
  intro i h;cases i with
  | zero=>simp [pw]
  | succ i =>
   rw [List.set_cons_succ,List.flatMap_cons,List.flatMap_cons,ih i (by simpa using h)]
   have e:∀ (X Y:List Value) (j:Nat) (u:Value),X.length=3->(X++Y).set ((i+1)*3+j) u=X++Y.set (i*3+j) u:=fun X Y j u hX=>by
    rw [List.set_append_right _ _ (by omega),hX];congr 2;omega
   have e0:=fun (X Y:List Value) (u:Value) (hX:X.length=3)=>e X Y 0 u hX
   simp only [Nat.add_zero] at e0;rw [e0 _ _ _ rfl,e _ _ 1 _ rfl,e _ _ 2 _ rfl]
theorem ArrAt.store {w:World} {g:Nat} {t:TypeId} {rs:List Rw} (h:ArrAt w g t rs) (i:Nat) (hi:i<rs.length) {r:Rw} {u1 u2:Value} (h1:WdsAt w u1 r.num) (h2:WdsAt w u2 r.den) :
  ArrAt (((w.setCell ⟨g,i*3,none⟩ (.bool r.neg)).setCell ⟨g,i*3+1,none⟩ u1).setCell ⟨g,i*3+2,none⟩ u2) g t (rs.set i r):=by
 obtain ⟨L,e,h3,h4,h5⟩:=h;have hl:i<L.length:=by rw [<-e,List.length_map] at hi;exact hi
 have hO:=(((iq.refl g w).store (i*3) (.bool r.neg)).store (i*3+1) u1).store (i*3+2) u2;have hn:=uI h5;refine ⟨L.set i (r,u1,u2),by rw [List.map_set,e],?_,?_,fun x hx=>?_⟩
 ·rw [Bq L (r,u1,u2) i hl];exact ((h3.store _ _).store _ _).store _ _
 ·rw [Bq L (r,u1,u2) i hl];exact ((h4.store _ _).store _ _).store _ _
 ·rcases List.mem_or_eq_of_mem_set hx with hx | rfl
  ·exact ⟨(h5 x hx).1.apart h4 hn hO,(h5 x hx).2.apart h4 hn hO⟩
  ·exact ⟨h1.apart h4 hn hO,h2.apart h4 hn hO⟩
theorem ArrAt.at {w:World} {g:Nat} {t:TypeId} {rs:List Rw} (h:ArrAt w g t rs) (i:Nat) (hi:i<rs.length):∃ a1 c1 a2 c2,(w.cell? ⟨g,i*3,none⟩=some (.bool (rs.getD i default).neg)/\w.cell? ⟨g,i*3+1,none⟩=some (.slice a1 (rs.getD i default).num.length c1)/\w.cell? ⟨g,i*3+2,none⟩=some (.slice a2 (rs.getD i default).den.length c2))/\(∀ j,w.frozen? ⟨g,j,none⟩=false)/\g<w.heap.size/\WdsAt w (.slice a1 (rs.getD i default).num.length c1) (rs.getD i default).num/\WdsAt w (.slice a2 (rs.getD i default).den.length c2) (rs.getD i default).den:=by
 obtain ⟨L,e,h3,h4,h5⟩:=h;have hl:i<L.length:=by rw [<-e,List.length_map] at hi;exact hi
 have ed:rs.getD i default=L[i].1:=by rw [<-e];simp [List.getD_eq_getElem?_getD,hl]
 have ah:=h5 _ (List.getElem_mem hl);obtain ⟨a1,c1,e1⟩:=ah.1.shape;obtain ⟨a2,c2,e2⟩:=ah.2.shape
 have ag:∀ j,j<3->∀ u,(pw L[i])[j]?=some u->w.cell? ⟨g,i*3+j,none⟩=some u:=fun j hj u hu=>by
  have h6:=GA L i hl j hj;rw [hu] at h6;obtain ⟨h7,h8⟩:=List.getElem?_eq_some_iff.1 h6;rw [h3.cell h7,h8]
 rw [ed];refine ⟨a1,c1,a2,c2,⟨?_,?_,?_⟩,fun j=>h3.free j,h3.lt,by rw [<-e1];exact ah.1,by rw [<-e2];exact ah.2⟩
 ·exact ag 0 (by decide) _ rfl
 ·rw [<-e1];exact ag 1 (by decide) _ rfl
 ·rw [<-e2];exact ag 2 (by decide) _ rfl
def SpanV (w:World) (v:Value) (lo hi:Rw):Prop :=
 ∃ u1 u2 u3 u4,v=.agg #[.bool lo.neg,u1,u2,.bool hi.neg,u3,u4]/\WdsAt w u1 lo.num/\WdsAt w u2 lo.den/\WdsAt w u3 hi.num/\WdsAt w u4 hi.den
theorem SpanV.kept {w w':World} {v:Value} {lo hi:Rw} (h:SpanV w v lo hi) (hk:gO w w'):SpanV w' v lo hi:=by
 obtain ⟨u1,u2,u3,u4,h0,h1,h2,h3,h4⟩:=h;exact ⟨u1,u2,u3,u4,h0,h1.kept hk,h2.kept hk,h3.kept hk,h4.kept hk⟩
theorem SpanV.shape {w:World} {v:Value} {lo hi:Rw} (h:SpanV w v lo hi):∃ a1 c1 a2 c2 a3 c3 a4 c4,v=.agg #[.bool lo.neg,.slice a1 lo.num.length c1,.slice a2 lo.den.length c2,.bool hi.neg,.slice a3 hi.num.length c3,.slice a4 hi.den.length c4] /\
  WdsAt w (.slice a1 lo.num.length c1) lo.num/\WdsAt w (.slice a2 lo.den.length c2) lo.den/\WdsAt w (.slice a3 hi.num.length c3) hi.num/\WdsAt w (.slice a4 hi.den.length c4) hi.den:=by
 obtain ⟨u1,u2,u3,u4,h0,h1,h2,h3,h4⟩:=h;obtain ⟨a1,c1,rfl⟩:=h1.shape;obtain ⟨a2,c2,rfl⟩:=h2.shape;obtain ⟨a3,c3,rfl⟩:=h3.shape;obtain ⟨a4,c4,rfl⟩:=h4.shape;exact ⟨a1,c1,a2,c2,a3,c3,a4,c4,h0,h1,h2,h3,h4⟩
def SpnAt (w:World) (g:Nat) (lo hi:Rw):Prop:=ArrAt w g 44 [lo,hi]
theorem SpnAt.kept {w w':World} {g:Nat} {lo hi:Rw} (h:SpnAt w g lo hi) (hk:gO w w'):SpnAt w' g lo hi:=ArrAt.kept h hk
theorem SpnAt.made {w:World} {lo hi:Rw} {u1 u2 u3 u4:Value} (h1:WdsAt w u1 lo.num) (h2:WdsAt w u2 lo.den) (h3:WdsAt w u3 hi.num) (h4:WdsAt w u4 hi.den) :
  SpnAt (w.alloc (.cells #[.bool lo.neg,u1,u2,.bool hi.neg,u3,u4] 44)) w.heap.size lo hi:=by
 have hk:gO w (w.alloc (.cells #[.bool lo.neg,u1,u2,.bool hi.neg,u3,u4] 44)):=(gO.refl _).alloc _;refine ⟨[(lo,u1,u2),(hi,u3,u4)],rfl,gS.made w #[.bool lo.neg,u1,u2,.bool hi.neg,u3,u4] 44,iX.made w #[.bool lo.neg,u1,u2,.bool hi.neg,u3,u4] 44,fun x hx=>?_⟩;rcases List.mem_cons.1 hx with rfl | hx
 ·exact ⟨h1.kept hk,h2.kept hk⟩
 ·rw [List.mem_singleton] at hx;subst hx;exact ⟨h3.kept hk,h4.kept hk⟩
theorem SpnAt.at {w:World} {g:Nat} {lo hi:Rw} (h:SpnAt w g lo hi):∃ a1 c1 a2 c2 a3 c3 a4 c4,
  (w.cell? ⟨g,0,none⟩=some (.bool lo.neg)/\w.cell? ⟨g,1,none⟩=some (.slice a1 lo.num.length c1)/\w.cell? ⟨g,2,none⟩=some (.slice a2 lo.den.length c2) /\
   w.cell? ⟨g,3,none⟩=some (.bool hi.neg)/\w.cell? ⟨g,4,none⟩=some (.slice a3 hi.num.length c3)/\w.cell? ⟨g,5,none⟩=some (.slice a4 hi.den.length c4)) /\
  (∀ j,w.frozen? ⟨g,j,none⟩=false)/\g<w.heap.size/\WdsAt w (.slice a1 lo.num.length c1) lo.num/\WdsAt w (.slice a2 lo.den.length c2) lo.den/\WdsAt w (.slice a3 hi.num.length c3) hi.num/\WdsAt w (.slice a4 hi.den.length c4) hi.den:=by
 obtain ⟨a1,c1,a2,c2,⟨x0,x1,x2⟩,hf,hl,y1,y2⟩:=ArrAt.at h 0 (by simp);obtain ⟨a3,c3,a4,c4,⟨x3,x4,x5⟩,_,_,y3,y4⟩:=ArrAt.at h 1 (by simp);exact ⟨a1,c1,a2,c2,a3,c3,a4,c4,⟨x0,x1,x2,x3,x4,x5⟩,hf,hl,y1,y2,y3,y4⟩
theorem SpnAt.lo {w:World} {g:Nat} {lo hi r:Rw} {u1 u2:Value} (h:SpnAt w g lo hi) (h1:WdsAt w u1 r.num) (h2:WdsAt w u2 r.den) :
  SpnAt (((w.setCell ⟨g,0,none⟩ (.bool r.neg)).setCell ⟨g,1,none⟩ u1).setCell ⟨g,2,none⟩ u2) g r hi:=ArrAt.store h 0 (by simp) h1 h2
theorem SpnAt.hi {w:World} {g:Nat} {lo hi r:Rw} {u1 u2:Value} (h:SpnAt w g lo hi) (h1:WdsAt w u1 r.num) (h2:WdsAt w u2 r.den) :
  SpnAt (((w.setCell ⟨g,3,none⟩ (.bool r.neg)).setCell ⟨g,4,none⟩ u1).setCell ⟨g,5,none⟩ u2) g lo r:=ArrAt.store h 1 (by simp) h1 h2
theorem zI {w:World} {g:Nat} {lo hi lo0 ag:Rw} {u1 u2 u3 u4:Value} (h:SpnAt w g lo0 ag) (h1:WdsAt w u1 lo.num) (h2:WdsAt w u2 lo.den) (h3:WdsAt w u3 hi.num) (h4:WdsAt w u4 hi.den) :
  ∃ w',w'=(((((w.setCell ⟨g,0,none⟩ (.bool lo.neg)).setCell ⟨g,1,none⟩ u1).setCell ⟨g,2,none⟩ u2).setCell ⟨g,3,none⟩ (.bool hi.neg)).setCell ⟨g,4,none⟩ u3).setCell ⟨g,5,none⟩ u4 /\
  (w'.cell? ⟨g,0,none⟩=some (.bool lo.neg)/\w'.cell? ⟨g,1,none⟩=some u1/\w'.cell? ⟨g,2,none⟩=some u2/\w'.cell? ⟨g,3,none⟩=some (.bool hi.neg)/\w'.cell? ⟨g,4,none⟩=some u3/\w'.cell? ⟨g,5,none⟩=some u4) /\
  SpanV w' (.agg #[.bool lo.neg,u1,u2,.bool hi.neg,u3,u4]) lo hi:=by
 refine ⟨_,rfl,?_,?_⟩
 ·obtain ⟨L,e,hr,_,_⟩:=h
  match L,e with
  | [x,y],_ =>
   have ah:=(((((hr.store 0 (.bool lo.neg)).store 1 u1).store 2 u2).store 3 (.bool hi.neg)).store 4 u3).store 5 u4;have c:=fun i (hi:i<6)=>ah.cell (i:=i) (by simpa [pw] using hi)
   exact ⟨c 0 (by omega),c 1 (by omega),c 2 (by omega),c 3 (by omega),c 4 (by omega),c 5 (by omega)⟩
 ·obtain ⟨L,e,_,hf,hk⟩:=h;have hO:=((((((iq.refl g w).store 0 (.bool lo.neg)).store 1 u1).store 2 u2).store 3 (.bool hi.neg)).store 4 u3).store 5 u4;have hn:=uI hk;exact ⟨_,_,_,_,rfl,h1.apart hf hn hO,h2.apart hf hn hO,h3.apart hf hn hO,h4.apart hf hn hO⟩
theorem ArrAt.fix {w:World} {g:Nat} {t:TypeId} {rs:List Rw} (h:ArrAt w g t rs):∃ row,iX w g row/\∀ k x,Value.int k x ∉ row:=by
 obtain ⟨L,_,_,hf,hk⟩:=h;exact ⟨_,hf,uI hk⟩
theorem SpnAt.zero (w:World):SpnAt (w.alloc (.cells #[.bool false,.slice none 0 0,.slice none 0 0,.bool false,.slice none 0 0,.slice none 0 0] 44)) w.heap.size ⟨false,[],[]⟩ ⟨false,[],[]⟩ :=
 SpnAt.made (lo:=⟨false,[],[]⟩) (hi:=⟨false,[],[]⟩) (WdsAt.nil _) (WdsAt.nil _) (WdsAt.nil _) (WdsAt.nil _)
theorem RatCell.zero (w:World):RatCell (w.alloc (.cells #[.bool false,.slice none 0 0,.slice none 0 0] 29)) w.heap.size ⟨false,[],[]⟩ :=
 RatCell.made (r:=⟨false,[],[]⟩) (WdsAt.nil w) (WdsAt.nil w)
theorem RatAt.parts {w:World} {v:Value} {r:Rw} (h:RatAt w v r):∃ n l m a1 c1 a2 c2,v=.agg #[.bool n,.slice a1 l c1,.slice a2 m c2]:=by
 obtain ⟨u1,u2,rfl,h1,h2⟩:=h;obtain ⟨a1,c1,rfl⟩:=h1.shape;obtain ⟨a2,c2,rfl⟩:=h2.shape;exact ⟨_,_,_,_,_,_,_,rfl⟩
theorem RatAt.box {w:World} {v:Value} {r:Rw} (h:RatAt w v r):∃ n l m a1 c1 a2 c2 w',v=.agg #[.bool n,.slice a1 l c1,.slice a2 m c2]/\w'=w.alloc (.cells #[.bool n,.slice a1 l c1,.slice a2 m c2] 29) /\
  RatCell w' w.heap.size r/\gO w w'/\RatAt w' (.agg #[.bool n,.slice a1 l c1,.slice a2 m c2]) r/\w'.heap.size=w.heap.size+1:=by
 obtain ⟨u1,u2,rfl,h1,h2⟩:=h;obtain ⟨a1,c1,rfl⟩:=h1.shape;obtain ⟨a2,c2,rfl⟩:=h2.shape;exact ⟨_,_,_,_,_,_,_,_,rfl,rfl,RatCell.made h1 h2,(gO.refl _).alloc _,⟨_,_,rfl,h1.kept ((gO.refl _).alloc _),h2.kept ((gO.refl _).alloc _)⟩,by simp⟩
theorem RatCell.read {w:World} {g:Nat} {r:Rw} (h:RatCell w g r):∃ n l m a1 c1 a2 c2,w.cell? ⟨g,0,none⟩=some (.bool n)/\w.cell? ⟨g,1,none⟩=some (.slice a1 l c1)/\w.cell? ⟨g,2,none⟩=some (.slice a2 m c2)/\g<w.heap.size /\
  Hid (RatAt w (.agg #[.bool n,.slice a1 l c1,.slice a2 m c2]) r):=by
 obtain ⟨a1,c1,a2,c2,⟨x0,x1,x2⟩,_,hl,hx⟩:=h.at;exact ⟨_,_,_,_,_,_,_,x0,x1,x2,hl,af hx⟩
theorem SpanV.box {w:World} {v:Value} {lo hi:Rw} (h:SpanV w v lo hi):∃ n1 l1 m1 n2 l2 m2 a1 c1 a2 c2 a3 c3 a4 c4 w',v=.agg #[.bool n1,.slice a1 l1 c1,.slice a2 m1 c2,.bool n2,.slice a3 l2 c3,.slice a4 m2 c4] /\
  w'=w.alloc (.cells #[.bool n1,.slice a1 l1 c1,.slice a2 m1 c2,.bool n2,.slice a3 l2 c3,.slice a4 m2 c4] 44) /\
  SpnAt w' w.heap.size lo hi/\gO w w'/\SpanV w' (.agg #[.bool n1,.slice a1 l1 c1,.slice a2 m1 c2,.bool n2,.slice a3 l2 c3,.slice a4 m2 c4]) lo hi/\w'.heap.size=w.heap.size+1:=by
 obtain ⟨a1,c1,a2,c2,a3,c3,a4,c4,rfl,h1,h2,h3,h4⟩:=h.shape;exact ⟨_,_,_,_,_,_,_,_,_,_,_,_,_,_,_,rfl,rfl,SpnAt.made h1 h2 h3 h4,(gO.refl _).alloc _,h.kept ((gO.refl _).alloc _),by simp⟩
theorem ArrAt.read2 {w:World} {g:Nat} {t:TypeId} {lo hi:Rw} (h:ArrAt w g t [lo,hi]):∃ n1 l1 m1 n2 l2 m2 a1 c1 a2 c2 a3 c3 a4 c4,
  w.cell? ⟨g,0,none⟩=some (.bool n1)/\w.cell? ⟨g,1,none⟩=some (.slice a1 l1 c1)/\w.cell? ⟨g,2,none⟩=some (.slice a2 m1 c2) /\
  w.cell? ⟨g,3,none⟩=some (.bool n2)/\w.cell? ⟨g,4,none⟩=some (.slice a3 l2 c3)/\w.cell? ⟨g,5,none⟩=some (.slice a4 m2 c4)/\g<w.heap.size /\
  Hid (RatAt w (.agg #[.bool n1,.slice a1 l1 c1,.slice a2 m1 c2]) lo)/\Hid (RatAt w (.agg #[.bool n2,.slice a3 l2 c3,.slice a4 m2 c4]) hi) /\
  Hid (SpanV w (.agg #[.bool n1,.slice a1 l1 c1,.slice a2 m1 c2,.bool n2,.slice a3 l2 c3,.slice a4 m2 c4]) lo hi):=by
 obtain ⟨a1,c1,a2,c2,⟨x0,x1,x2⟩,_,hl,y1,y2⟩:=ArrAt.at h 0 (by simp);obtain ⟨a3,c3,a4,c4,⟨x3,x4,x5⟩,_,_,y3,y4⟩:=ArrAt.at h 1 (by simp);exact ⟨_,_,_,_,_,_,_,_,_,_,_,_,_,_,x0,x1,x2,x3,x4,x5,hl,af ⟨_,_,rfl,y1,y2⟩,af ⟨_,_,rfl,y3,y4⟩,af ⟨_,_,_,_,rfl,y1,y2,y3,y4⟩⟩
theorem SpnAt.read {w:World} {g:Nat} {lo hi:Rw} (h:SpnAt w g lo hi):∃ n1 l1 m1 n2 l2 m2 a1 c1 a2 c2 a3 c3 a4 c4,
  w.cell? ⟨g,0,none⟩=some (.bool n1)/\w.cell? ⟨g,1,none⟩=some (.slice a1 l1 c1)/\w.cell? ⟨g,2,none⟩=some (.slice a2 m1 c2) /\
  w.cell? ⟨g,3,none⟩=some (.bool n2)/\w.cell? ⟨g,4,none⟩=some (.slice a3 l2 c3)/\w.cell? ⟨g,5,none⟩=some (.slice a4 m2 c4)/\g<w.heap.size /\
  Hid (RatAt w (.agg #[.bool n1,.slice a1 l1 c1,.slice a2 m1 c2]) lo)/\Hid (RatAt w (.agg #[.bool n2,.slice a3 l2 c3,.slice a4 m2 c4]) hi) /\
  Hid (SpanV w (.agg #[.bool n1,.slice a1 l1 c1,.slice a2 m1 c2,.bool n2,.slice a3 l2 c3,.slice a4 m2 c4]) lo hi):=ArrAt.read2 h
theorem SpnAt.put {w:World} {g:Nat} {v:Value} {lo0 ah lo hi:Rw} (h:SpnAt w g lo0 ah) (hv:SpanV w v lo hi):∃ n1 l1 m1 n2 l2 m2 a1 c1 a2 c2 a3 c3 a4 c4 w',v=.agg #[.bool n1,.slice a1 l1 c1,.slice a2 m1 c2,.bool n2,.slice a3 l2 c3,.slice a4 m2 c4] /\
  w'=(((((w.setCell ⟨g,0,none⟩ (.bool n1)).setCell ⟨g,1,none⟩ (.slice a1 l1 c1)).setCell ⟨g,2,none⟩ (.slice a2 m1 c2)).setCell ⟨g,3,none⟩ (.bool n2)).setCell ⟨g,4,none⟩ (.slice a3 l2 c3)).setCell ⟨g,5,none⟩ (.slice a4 m2 c4) /\
  ((∃ z,w.cell? ⟨g,0,none⟩=some z)/\(∃ z,w.cell? ⟨g,1,none⟩=some z)/\(∃ z,w.cell? ⟨g,2,none⟩=some z)/\(∃ z,w.cell? ⟨g,3,none⟩=some z)/\(∃ z,w.cell? ⟨g,4,none⟩=some z)/\(∃ z,w.cell? ⟨g,5,none⟩=some z)) /\
  (w.frozen? ⟨g,0,none⟩=false/\w.frozen? ⟨g,1,none⟩=false/\w.frozen? ⟨g,2,none⟩=false/\w.frozen? ⟨g,3,none⟩=false/\w.frozen? ⟨g,4,none⟩=false/\w.frozen? ⟨g,5,none⟩=false)/\g<w.heap.size /\
  Hid (w'.cell? ⟨g,0,none⟩=some (.bool n1)/\w'.cell? ⟨g,1,none⟩=some (.slice a1 l1 c1)/\w'.cell? ⟨g,2,none⟩=some (.slice a2 m1 c2)/\w'.cell? ⟨g,3,none⟩=some (.bool n2)/\w'.cell? ⟨g,4,none⟩=some (.slice a3 l2 c3)/\w'.cell? ⟨g,5,none⟩=some (.slice a4 m2 c4)) /\
  Hid (SpanV w' (.agg #[.bool n1,.slice a1 l1 c1,.slice a2 m1 c2,.bool n2,.slice a3 l2 c3,.slice a4 m2 c4]) lo hi)/\Hid (SpnAt w' g lo hi)/\Hid (iq g w w')/\Hid (∀ W,gO W w->W.heap.size<=g->gO W w'):=by
 obtain ⟨a1,c1,a2,c2,a3,c3,a4,c4,rfl,h1,h2,h3,h4⟩:=hv.shape;obtain ⟨_,_,_,_,_,_,_,_,⟨x0,x1,x2,x3,x4,x5⟩,hf,hl,_⟩:=h.at;obtain ⟨w',hw',hy,ai⟩:=zI h h1 h2 h3 h4;refine ⟨_,_,_,_,_,_,_,_,_,_,_,_,_,_,w',rfl,hw',⟨⟨_,x0⟩,⟨_,x1⟩,⟨_,x2⟩,⟨_,x3⟩,⟨_,x4⟩,⟨_,x5⟩⟩,⟨hf 0,hf 1,hf 2,hf 3,hf 4,hf 5⟩,hl,af hy,af ai,af ?_,af ?_,af fun W hk hg=>?_⟩
 ·obtain ⟨row,ag,hn⟩:=ArrAt.fix h;have hO:=(((iq.refl g w).store 0 (.bool lo.neg)).store 1 (.slice a1 lo.num.length c1)).store 2 (.slice a2 lo.den.length c2);rw [hw'];exact (h.lo h1 h2).hi (h3.apart ag hn hO) (h4.apart ag hn hO)
 ·rw [hw'];exact ((((((iq.refl g w).store 0 _).store 1 _).store 2 _).store 3 _).store 4 _).store 5 _
 ·rw [hw'];exact (((((hk.store hg _ _).store hg _ _).store hg _ _).store hg _ _).store hg _ _).store hg _ _
theorem RatCell.save {w:World} {g:Nat} {v:Value} {r0 r:Rw} (h:RatCell w g r0) (hv:RatAt w v r):∃ n l m a1 c1 a2 c2 w',v=.agg #[.bool n,.slice a1 l c1,.slice a2 m c2] /\
  w'=((w.setCell ⟨g,0,none⟩ (.bool n)).setCell ⟨g,1,none⟩ (.slice a1 l c1)).setCell ⟨g,2,none⟩ (.slice a2 m c2) /\
  ((∃ z,w.cell? ⟨g,0,none⟩=some z)/\(∃ z,w.cell? ⟨g,1,none⟩=some z)/\(∃ z,w.cell? ⟨g,2,none⟩=some z)) /\
  (w.frozen? ⟨g,0,none⟩=false/\w.frozen? ⟨g,1,none⟩=false/\w.frozen? ⟨g,2,none⟩=false)/\g<w.heap.size /\
  Hid (w'.cell? ⟨g,0,none⟩=some (.bool n)/\w'.cell? ⟨g,1,none⟩=some (.slice a1 l c1)/\w'.cell? ⟨g,2,none⟩=some (.slice a2 m c2)) /\
  Hid (RatAt w' (.agg #[.bool n,.slice a1 l c1,.slice a2 m c2]) r)/\Hid (RatCell w' g r)/\Hid (∀ W,gO W w->W.heap.size<=g->gO W w'):=by
 obtain ⟨u1,u2,rfl,h1,h2⟩:=hv;obtain ⟨a1,c1,rfl⟩:=h1.shape;obtain ⟨a2,c2,rfl⟩:=h2.shape;obtain ⟨_,_,_,_,⟨x0,x1,x2⟩,hf,hl,_⟩:=h.at;have hs:=h.store h1 h2;obtain ⟨w',hw'⟩:∃ w',w'=((w.setCell ⟨g,0,none⟩ (.bool r.neg)).setCell ⟨g,1,none⟩ (.slice a1 r.num.length c1)).setCell ⟨g,2,none⟩ (.slice a2 r.den.length c2):=⟨_,rfl⟩;rw [<-hw'] at hs;refine ⟨_,_,_,_,_,_,_,w',rfl,hw',⟨⟨_,x0⟩,⟨_,x1⟩,⟨_,x2⟩⟩,hf,hl,af ?_,af ?_,af hs,af fun W hk hg=>?_⟩
 ·obtain ⟨_,_,_,_,hr,_⟩:=h;have ah:=((hr.store 0 (.bool r.neg)).store 1 (.slice a1 r.num.length c1)).store 2 (.slice a2 r.den.length c2);rw [hw'];have c:=fun i (hi:i<3)=>ah.cell (i:=i) (by simpa using hi)
  exact ⟨c 0 (by omega),c 1 (by omega),c 2 (by omega)⟩
 ·obtain ⟨a3,c3,a4,c4,_,ag,_,_⟩:=h;rw [hw'];have hO:=(((iq.refl g w).store 0 (.bool r.neg)).store 1 (.slice a1 r.num.length c1)).store 2 (.slice a2 r.den.length c2);have hn:∀ k x,Value.int k x ∉ [Value.bool r0.neg,.slice a3 r0.num.length c3,.slice a4 r0.den.length c4]:=fun k x hx=>by simp at hx
  exact ⟨_,_,rfl,h1.apart ag hn hO,h2.apart ag hn hO⟩
 ·rw [hw'];exact ((hk.store hg _ _).store hg _ _).store hg _ _
theorem iq.cell {g p o:Nat} {w w':World} {v:Value} (h:iq g w w') (ag:p≠g) (hc:w.cell? ⟨p,o,none⟩=some v):w'.cell? ⟨p,o,none⟩=some v:=by
 have ah:=World.block_lt_of_cell? _ _ hc;have:=h.block p ah ag;simp only [World.cell?,this] at hc⊢;exact hc
theorem SpnAt.free {w:World} {g:Nat} {lo hi:Rw} (h:SpnAt w g lo hi):∀ j,w.frozen? ⟨g,j,none⟩=false:=by
 obtain ⟨_,_,_,_,_,_,_,_,_,hf,_⟩:=h.at;exact hf
theorem SpanV.of2 {w:World} {b1 b2:Bool} {u1 u2 u3 u4:Value} {lo hi:Rw} (h1:RatAt w (.agg #[.bool b1,u1,u2]) lo) (h2:RatAt w (.agg #[.bool b2,u3,u4]) hi):SpanV w (.agg #[.bool b1,u1,u2,.bool b2,u3,u4]) lo hi:=by
 obtain ⟨x1,x2,e1,k1,k2⟩:=h1;obtain ⟨x3,x4,e2,k3,k4⟩:=h2;simp only [Value.agg.injEq,Array.mk.injEq,List.cons.injEq,Value.bool.injEq,and_true] at e1 e2;obtain ⟨rfl,rfl,rfl⟩:=e1;obtain ⟨rfl,rfl,rfl⟩:=e2;exact ⟨_,_,_,_,rfl,k1,k2,k3,k4⟩
theorem SpnAt.lay {w:World} {b1 b2:Bool} {u1 u2 u3 u4:Value} {lo hi:Rw} (hv:SpanV w (.agg #[.bool b1,u1,u2,.bool b2,u3,u4]) lo hi):SpnAt (w.alloc (.cells #[.bool b1,u1,u2,.bool b2,u3,u4] 44)) w.heap.size lo hi:=by
 obtain ⟨_,_,_,_,e,h1,h2,h3,h4⟩:=hv;simp only [Value.agg.injEq,Array.mk.injEq,List.cons.injEq,Value.bool.injEq,and_true] at e;obtain ⟨rfl,rfl,rfl,rfl,rfl,rfl⟩:=e;exact SpnAt.made h1 h2 h3 h4
theorem SpnAt.set {w:World} {g:Nat} {b1 b2:Bool} {u1 u2 u3 u4:Value} {lo0 ah lo hi:Rw} (h:SpnAt w g lo0 ah) (hv:SpanV w (.agg #[.bool b1,u1,u2,.bool b2,u3,u4]) lo hi) :
  SpnAt ((((((w.setCell ⟨g,0,none⟩ (.bool b1)).setCell ⟨g,1,none⟩ u1).setCell ⟨g,2,none⟩ u2).setCell ⟨g,3,none⟩ (.bool b2)).setCell ⟨g,4,none⟩ u3).setCell ⟨g,5,none⟩ u4) g lo hi:=by
 obtain ⟨_,_,_,_,e,h1,h2,h3,h4⟩:=hv;simp only [Value.agg.injEq,Array.mk.injEq,List.cons.injEq,Value.bool.injEq,and_true] at e;obtain ⟨rfl,rfl,rfl,rfl,rfl,rfl⟩:=e;obtain ⟨row,ag,hn⟩:=ArrAt.fix h;have hO:=(((iq.refl g w).store 0 (.bool lo.neg)).store 1 u1).store 2 u2;exact (h.lo h1 h2).hi (h3.apart ag hn hO) (h4.apart ag hn hO)
theorem ArrAt.two {w:World} {r s:Rw} {u1 u2 u3 u4:Value} {b1 b2:Bool} (h1:RatAt w (.agg #[.bool b1,u1,u2]) r) (h2:RatAt w (.agg #[.bool b2,u3,u4]) s) :
  ArrAt (w.alloc (.cells #[.bool b1,u1,u2,.bool b2,u3,u4] 29)) w.heap.size 29 [r,s]:=by
 obtain ⟨x1,x2,e1,k1,k2⟩:=h1;obtain ⟨x3,x4,e2,k3,k4⟩:=h2;simp only [Value.agg.injEq,Array.mk.injEq,List.cons.injEq,Value.bool.injEq,and_true] at e1 e2;obtain ⟨rfl,rfl,rfl⟩:=e1;obtain ⟨rfl,rfl,rfl⟩:=e2;have hk:gO w (w.alloc (.cells #[.bool r.neg,u1,u2,.bool s.neg,u3,u4] 29)):=(gO.refl _).alloc _;refine ⟨[(r,u1,u2),(s,u3,u4)],rfl,gS.made w #[.bool r.neg,u1,u2,.bool s.neg,u3,u4] 29,iX.made w #[.bool r.neg,u1,u2,.bool s.neg,u3,u4] 29,fun x hx=>?_⟩;rcases List.mem_cons.1 hx with rfl | hx
 ·exact ⟨k1.kept hk,k2.kept hk⟩
 ·rw [List.mem_singleton] at hx;subst hx;exact ⟨k3.kept hk,k4.kept hk⟩
def KT (y:Nat) (is:List Nat):Nat:=is.foldl (fun y i=>y ||| 2^i) y
def Hq (xs:List Int):Nat × List (Nat × Nat):=if ku xs≠0 then (ku xs,[]) else match Jl (iz xs) with | none=>(4,[]) | some l=>(0,l)
theorem gU.get {w:World} {a:Option Addr} {n c:Nat} {xs:List Int} (h:gU w (.slice a n c) xs) (i:Nat) (hi:i<xs.length):∃ b o,a=some ⟨b,o,none⟩/\w.cell? ⟨b,o+i,none⟩=some (.int .i64 xs[i]):=by
 obtain ⟨a',c',h1,_,_,h5⟩:=h;injection h1 with h1
 subst h1;exact h5 i hi
def oz (xs:List Int) (ps:List Rw):Nat :=
 if ku xs≠0 then ku xs else if (iz xs).any (fun s=>decide ((ps.length:Int)<=oy s))=true then 11 else if kQ ps=true then 3 else 0
theorem vC (v:Value) (ps:List Rw) (w:World) (hv:RatsAt w v ps) (hs:∀ x∈ps,x.Short 34359738368):Calls Tryz.prog 56 #[v] w fun e w'=>e=.returned (.bool (kQ ps))/\gO w w':=by
 obtain ⟨a,c,rfl,⟨hc,_⟩,hl,hx⟩:=hv;obtain ⟨n,hn⟩:∃ n,n=ps.length:=⟨_,rfl⟩;have hbig:n<=140737488355328:=by omega
 rw [<-hn];have HX:=af hx;have HN:=af hn;have ay:=af hs;clear hx hn hl hc hs;go_enter Tryz.func56,Tryz.ntmps56;go_wp2_with fail;go_loopg [7] n (fun kx i wr=>∃ k:Nat,k<=n/\i=.int .i64 k/\n - k<=kx/\Hid (∀ x∈ps.take k,lD x=true)/\Hid (gO w wr))
 case atStart=>exact ⟨0,Nat.zero_le _,rfl,by omega,af (by simp),af (gO.refl _)⟩
 case round =>
  obtain ⟨k,hk,rfl,aA,HF,HK⟩:=hrel;by_cases aB:k<n
  ·have ap:k<ps.length:=by have:=HN.out;omega
   obtain ⟨b,o,u1,u2,rfl,aq,ah,ai⟩:=HX.out k ap;have ag:=jN aq HK.out;have aj:=ay.out ps[k] (List.getElem_mem _);obtain ⟨x,al⟩:∃ x,x=ps[k]:=⟨_,rfl⟩;rw [<-al] at ag aj ah ai;have ar:=af al;obtain ⟨a1,c1,rfl⟩:=ah.shape;obtain ⟨a2,c2,rfl⟩:=ai.shape;have HC:Hid (∀ W,gO w W->Calls Tryz.prog 28 #[.agg #[.bool x.neg,.slice a1 x.num.length c1,.slice a2 x.den.length c2]] W fun e W'=>e=.returned (.bool (lD x))/\gO W W'):=af fun W hk=>DZ _ x W ⟨_,_,rfl,ah.kept hk,ai.kept hk⟩ ⟨Nat.le_trans aj.1 (by omega),Nat.le_trans aj.2 (by omega)⟩
   generalize x.num.length=n1 at *;generalize x.den.length=n2 at *;have aw:Hid (wr.rangeAt b (o+k*3) [.bool x.neg,.slice a1 n1 c1,.slice a2 n2 c2]):=af ag;have az:(k:Int)<(n:Int):=by omega
   clear aq ag al aj ah ai;cases hq:lD x with
   | false =>
    rw [hq] at HC;have HQ:=af hq;clear hq;go_wp2_with (first | (with_reducible refine wpList_load_mid rfl 29 _ rfl b (o+k*3) rfl _ _ aw.out Tryz.underlying29 rfl (by kernel_rfl) ?_) | (go_at_call 28;refine (HC.out _ (HK.out.alloc _)).mono ?_;rintro e w' ⟨rfl,am⟩));go_ret;have hb:kQ ps=true:=List.any_eq_true.2 ⟨x,by rw [ar.out];exact List.getElem_mem _,by rw [HQ.out];rfl⟩;exact ⟨by rw [hb];rfl,(HK.out.alloc _).trans am⟩
   | true =>
    rw [hq] at HC;have HQ:=af hq;clear hq;go_wp2_with (first | (with_reducible refine wpList_load_mid rfl 29 _ rfl b (o+k*3) rfl _ _ aw.out Tryz.underlying29 rfl (by kernel_rfl) ?_) | (go_at_call 28;refine (HC.out _ (HK.out.alloc _)).mono ?_;rintro e w' ⟨rfl,am⟩));go_roundg (n - (k+1))
    case measure=>omega
    case rel =>
     refine ⟨k+1,by omega,by go_num,Nat.le_refl _,af ?_,af ((HK.out.alloc _).trans am)⟩;intro y hy;rw [List.take_succ_eq_append_getElem ap] at hy;rcases List.mem_append.1 hy with hy | hy
     ·exact HF.out y hy
     ·simp at hy;rw [hy,<-ar.out];exact HQ.out
  ·have hh:=HF.out;rw [List.take_of_length_le (by have:=HN.out;omega)] at hh;have HB:Hid (kQ ps=false):=af (by unfold kQ;rw [List.any_eq_false];intro y hy;simp [hh y hy]);have az:¬ (k:Int)<(n:Int):=by omega
   clear hh;go_wp2;go_ret;exact ⟨by rw [HB.out];rfl,HK.out⟩
theorem sd (xv v:Value) (xs:List Int) (ps:List Rw) (w:World) (hx:gU w xv xs) (hv:RatsAt w v ps) (h3:∀ r∈ps,r.Short 3) :
  Calls Tryz.prog 46 #[xv,v] w fun e w'=>e=.returned (iV (oz xs ps))/\gO w w':=by
 have am:Hid (∀ W,gO w W->Calls Tryz.prog 94 #[xv] W fun e w'=>e=.returned (iV (ku xs))/\gO W w'):=af fun W h=>Aq xv xs W (hx.kept h)
 have ap:=af (fun W (h:gO w W)=>vC v ps W (hv.kept h) (fun r hr=>⟨Nat.le_trans (h3 r hr).1 (by omega),Nat.le_trans (h3 r hr).2 (by omega)⟩));obtain ⟨Q,hQ⟩:∃ Q,Q=oz xs ps:=⟨_,rfl⟩;rw [<-hQ];unfold oz at hQ;obtain ⟨xa,xc,aG,aR,aS,aT⟩:=id hx;obtain ⟨m,hm⟩:∃ m,m=xs.length:=⟨_,rfl⟩;rw [<-hm] at aG;subst aG;obtain ⟨pa,pc,rfl⟩:=hv.shape;obtain ⟨q1,ay⟩:∃ q1,q1=ku xs:=⟨_,rfl⟩;rw [<-ay] at am hQ;have HF:=af hx;have HM:=af hm;have HQ:=af hQ;have aU:=af ay;have bh:m<=140737488355328:=by omega
 have aV:=hv.len;clear hx hv hm hQ ay h3 aR aS aT;by_cases h1:q1=0
 ·subst h1;rw [kj] at am;obtain ⟨az,aH⟩:=Ag (aU.out.symm);obtain ⟨aA,aB⟩:=qP aH;obtain ⟨ss,hss⟩:∃ ss,ss=iz xs:=⟨_,rfl⟩;have aq:=HQ.out;rw [if_neg (by simp),<-hss] at aq;rw [<-hss] at aA aB;have aI:m=ss.length:=by rw [HM.out,hss];unfold iz;rw [List.length_map]
  have aW:Hid (gU w (.slice xa m xc) (ib ss)):=af (by rw [<-aA];exact HF.out);have aX:Hid (∀ s∈ss,s<16777216):=af fun s hs=>by have:=aB s hs;unfold Mk at this;omega
  have aJ:=af aI;have aY:Hid (∀ (s:Nat) (W:World),s<16777216->Calls Tryz.prog 95 #[.int .i64 s] W fun e w'=>e=.returned (.int .i64 (oy s))/\gO W w'):=af fun s W hs=>(C' s hs W).mono fun _ _ ⟨h1,h2⟩=>⟨h1,h2 ▸ gO.refl _⟩
  obtain ⟨pn,aK⟩:∃ pn,pn=ps.length:=⟨_,rfl⟩;rw [<-aK] at aq aV ap⊢;have aL:=af aq;clear aq aA aB hss aI az aH aK;go_enter Tryz.func46,Tryz.ntmps46;go_wp2_with fail;refine (am.out _ (gO.refl _)).mono ?_;rintro e w4 ⟨rfl,aM⟩;have aZ:=af aM;clear aM;go_wp2_with fail;go_loopg [15] m (fun kx s30 wr=>∃ j:Nat,j<=m/\s30=.int .i64 j/\m - j<=kx/\Hid (∀ s∈ss.take j,oy s<(pn:Int))/\Hid (gO w4 wr))
  case atStart=>exact ⟨0,Nat.zero_le _,rfl,by omega,af (by simp),af (gO.refl _)⟩
  case round =>
   obtain ⟨j,hj,rfl,bi,HG,aN⟩:=hrel;have al:=af (aZ.out.trans aN.out);by_cases bj:j<m
   ·have aC:j<ss.length:=by have:=aJ.out;omega
    obtain ⟨b,o,rfl,aD⟩:=aW.out.get j (by simpa [ib] using aC);obtain ⟨s,hs⟩:∃ s,s=ss[j]:=⟨_,rfl⟩;have e1:(ib ss)[j]'(by simpa [ib] using aC)=(s:Int):=by rw [hs];simp [ib]
    rw [e1] at aD;have aO:=al.out.cell aD;have HS:=af hs;have aF:=af (fun W=>aY.out s W (aX.out s (by rw [hs];exact List.getElem_mem _)));have a_:(j:Int)<(m:Int):=by omega
    obtain ⟨g,hg⟩:∃ g,g=oy s:=⟨_,rfl⟩;have aP:=af hg;rw [<-hg] at aF;clear e1 aD hs hg;by_cases ar:(pn:Int)<=g
    ·have aj:Hid (Q=11):=af (by
      have h:=aL.out;rw [if_pos (List.any_eq_true.2 ⟨s,by rw [HS.out];exact List.getElem_mem _,decide_eq_true (by rw [<-aP.out];exact ar)⟩)] at h;exact h)
     have dge:decide ((pn:Int)<=g)=true:=decide_eq_true ar;go_wp2_with fail;refine (aF.out _).mono ?_;rintro e w5 ⟨rfl,ag⟩;have ah:=af (al.out.trans ag);clear ag aO;go_wp2;go_ret;exact ⟨by rw [aj.out];rfl,ah.out⟩
    ·have bk:¬ (pn:Int)<=g:=ar;have dgl:decide ((pn:Int)<=g)=false:=decide_eq_false ar;go_wp2_with fail;refine (aF.out _).mono ?_;rintro e w5 ⟨rfl,ag⟩;have ah:=af (aN.out.trans ag);clear ag aO;go_wp2_with fail;go_roundg (m - (j+1))
     case measure=>omega
     case rel=>exact ⟨j+1,by omega,by go_num,Nat.le_refl _,af (fun y hy=>by
      rw [List.take_succ_eq_append_getElem aC] at hy;rcases List.mem_append.1 hy with hy | hy
      ·exact HG.out y hy
      ·simp at hy;rw [hy,<-HS.out,<-aP.out];omega),ah⟩
   ·have a_:¬ (j:Int)<(m:Int):=by omega
    have bd:Hid (∀ s∈ss,oy s<(pn:Int)):=af (by have h:=HG.out;rwa [List.take_of_length_le (by have:=aJ.out;omega)] at h)
    have aw:Hid (Q=if kQ ps=true then 3 else 0):=af (by
     have h:=aL.out
     rw [if_neg (by
      intro h2;obtain ⟨s,hs,h3⟩:=List.any_eq_true.1 h2;have:=bd.out s hs;have:=of_decide_eq_true h3;omega)] at h
     exact h)
    cases ai:kQ ps with
    | true =>
     rw [ai] at ap aw;have aj:Hid (Q=3):=af (by have h:=aw.out;rw [if_pos rfl] at h;exact h);clear ai;go_wp2_with fail;refine (ap.out _ al.out).mono ?_;rintro e w5 ⟨rfl,ag⟩;have ah:=af (al.out.trans ag);clear ag;go_wp2;go_ret;exact ⟨by rw [aj.out];rfl,ah.out⟩
    | false =>
     rw [ai] at ap aw;have aj:Hid (Q=0):=af (by have h:=aw.out;rw [if_neg (by simp)] at h;exact h);clear ai;go_wp2_with fail;refine (ap.out _ al.out).mono ?_;rintro e w5 ⟨rfl,ag⟩;have ah:=af (al.out.trans ag);clear ag;go_wp2;go_ret;exact ⟨by rw [aj.out];rfl,ah.out⟩
 ·have aj:Hid (Q=q1):=af (by have h:=HQ.out;rw [if_pos h1] at h;exact h);have aQ:iV q1=.iface 60 (.int .i64 q1):=iF h1;rw [aj.out];have bl:=af h1;have bf:((q1:Nat):Int)≠0:=by omega
  have bo:(((q1:Nat):Int) != 0)=true:=by simpa using bf
  try rw [aQ] at am⊢
  clear aQ;go_enter Tryz.func46,Tryz.ntmps46;go_wp2_with fail;refine (am.out _ (gO.refl _)).mono ?_;rintro e w5 ⟨rfl,ag⟩;have ah:=af ag;clear ag;go_wp2;go_ret;exact ⟨rfl,ah.out⟩
theorem lF (xv v:Value) (xs:List Int) (ps:List Rw) (w:World) (hx:gU w xv xs) (hv:RatsAt w v ps) (h3:∀ r∈ps,r.Short 3) :
  Calls Tryz.prog 50 #[xv,v] w fun e w'=>e=.returned (.int .i64 (oz xs ps:Nat))/\gO w w':=by
 have ap:Hid (∀ W,gO w W->Calls Tryz.prog 99 #[xv] W fun e w'=>e=.returned (.int .i64 (ku xs:Nat))/\gO W w'):=af fun W h=>xt xv xs W (hx.kept h)
 have am:=af (fun W (h:gO w W)=>ug v ps W (hv.kept h) (fun r hr=>⟨Nat.le_trans (h3 r hr).1 (by omega),Nat.le_trans (h3 r hr).2 (by omega)⟩));obtain ⟨Q,hQ⟩:∃ Q,Q=oz xs ps:=⟨_,rfl⟩;rw [<-hQ];unfold oz at hQ;obtain ⟨xa,xc,aG,aR,aS,aT⟩:=id hx;obtain ⟨m,hm⟩:∃ m,m=xs.length:=⟨_,rfl⟩;rw [<-hm] at aG;subst aG;obtain ⟨pa,pc,rfl⟩:=hv.shape;obtain ⟨q1,ay⟩:∃ q1,q1=ku xs:=⟨_,rfl⟩;rw [<-ay] at ap hQ;have HF:=af hx;have HM:=af hm;have HQ:=af hQ;have aU:=af ay;have bh:m<=140737488355328:=by omega
 have aV:=hv.len;clear hx hv hm hQ ay h3 aR aS aT;by_cases h1:q1=0
 ·subst h1
  skip
  obtain ⟨az,aH⟩:=Ag (aU.out.symm);obtain ⟨aA,aB⟩:=qP aH;obtain ⟨ss,hss⟩:∃ ss,ss=iz xs:=⟨_,rfl⟩;have aq:=HQ.out;rw [if_neg (by simp),<-hss] at aq;rw [<-hss] at aA aB;have aI:m=ss.length:=by rw [HM.out,hss];unfold iz;rw [List.length_map]
  have aW:Hid (gU w (.slice xa m xc) (ib ss)):=af (by rw [<-aA];exact HF.out);have aX:Hid (∀ s∈ss,s<16777216):=af fun s hs=>by have:=aB s hs;unfold Mk at this;omega
  have aJ:=af aI;have aY:Hid (∀ (s:Nat) (W:World),s<16777216->Calls Tryz.prog 100 #[.int .i64 s] W fun e w'=>e=.returned (.int .i64 (oy s))/\gO W w'):=af fun s W hs=>yw s hs W
  obtain ⟨pn,aK⟩:∃ pn,pn=ps.length:=⟨_,rfl⟩;rw [<-aK] at aq aV am⊢;have aL:=af aq;clear aq aA aB hss aI az aH aK;go_enter Tryz.func50,Tryz.ntmps50;go_wp2_with fail;refine (ap.out _ (gO.refl _)).mono ?_;rintro e w4 ⟨rfl,aM⟩;have aZ:=af aM;clear aM;go_wp2_with fail;go_loopg [15] m (fun kx s30 wr=>∃ j:Nat,j<=m/\s30=.int .i64 j/\m - j<=kx/\Hid (∀ s∈ss.take j,oy s<(pn:Int))/\Hid (gO w4 wr))
  case atStart=>exact ⟨0,Nat.zero_le _,rfl,by omega,af (by simp),af (gO.refl _)⟩
  case round =>
   obtain ⟨j,hj,rfl,bi,HG,aN⟩:=hrel;have al:=af (aZ.out.trans aN.out);by_cases bj:j<m
   ·have aC:j<ss.length:=by have:=aJ.out;omega
    obtain ⟨b,o,rfl,aD⟩:=aW.out.get j (by simpa [ib] using aC);obtain ⟨s,hs⟩:∃ s,s=ss[j]:=⟨_,rfl⟩;have e1:(ib ss)[j]'(by simpa [ib] using aC)=(s:Int):=by rw [hs];simp [ib]
    rw [e1] at aD;have aO:=al.out.cell aD;have HS:=af hs;have aF:=af (fun W=>aY.out s W (aX.out s (by rw [hs];exact List.getElem_mem _)));have a_:(j:Int)<(m:Int):=by omega
    obtain ⟨g,hg⟩:∃ g,g=oy s:=⟨_,rfl⟩;have aP:=af hg;rw [<-hg] at aF;clear e1 aD hs hg;by_cases ar:(pn:Int)<=g
    ·have aj:Hid (Q=11):=af (by
      have h:=aL.out;rw [if_pos (List.any_eq_true.2 ⟨s,by rw [HS.out];exact List.getElem_mem _,decide_eq_true (by rw [<-aP.out];exact ar)⟩)] at h;exact h)
     have dge:decide ((pn:Int)<=g)=true:=decide_eq_true ar;go_wp2_with fail;refine (aF.out _).mono ?_;rintro e w5 ⟨rfl,ag⟩;have ah:=af (al.out.trans ag);clear ag aO;go_wp2;go_ret;exact ⟨by rw [aj.out];rfl,ah.out⟩
    ·have bk:¬ (pn:Int)<=g:=ar;have dgl:decide ((pn:Int)<=g)=false:=decide_eq_false ar;go_wp2_with fail;refine (aF.out _).mono ?_;rintro e w5 ⟨rfl,ag⟩;have ah:=af (aN.out.trans ag);clear ag aO;go_wp2_with fail;go_roundg (m - (j+1))
     case measure=>omega
     case rel=>exact ⟨j+1,by omega,by go_num,Nat.le_refl _,af (fun y hy=>by
      rw [List.take_succ_eq_append_getElem aC] at hy;rcases List.mem_append.1 hy with hy | hy
      ·exact HG.out y hy
      ·simp at hy;rw [hy,<-HS.out,<-aP.out];omega),ah⟩
   ·have a_:¬ (j:Int)<(m:Int):=by omega
    have bd:Hid (∀ s∈ss,oy s<(pn:Int)):=af (by have h:=HG.out;rwa [List.take_of_length_le (by have:=aJ.out;omega)] at h)
    have aw:Hid (Q=if kQ ps=true then 3 else 0):=af (by
     have h:=aL.out
     rw [if_neg (by
      intro h2;obtain ⟨s,hs,h3⟩:=List.any_eq_true.1 h2;have:=bd.out s hs;have:=of_decide_eq_true h3;omega)] at h
     exact h)
    cases ai:kQ ps with
    | true =>
     rw [ai] at am aw;have aj:Hid (Q=3):=af (by have h:=aw.out;rw [if_pos rfl] at h;exact h);clear ai;go_wp2_with fail;refine (am.out _ al.out).mono ?_;rintro e w5 ⟨rfl,ag⟩;have ah:=af (al.out.trans ag);clear ag;go_wp2;go_ret;exact ⟨by rw [aj.out];rfl,ah.out⟩
    | false =>
     rw [ai] at am aw;have aj:Hid (Q=0):=af (by have h:=aw.out;rw [if_neg (by simp)] at h;exact h);clear ai;go_wp2_with fail;refine (am.out _ al.out).mono ?_;rintro e w5 ⟨rfl,ag⟩;have ah:=af (al.out.trans ag);clear ag;go_wp2;go_ret;exact ⟨by rw [aj.out];rfl,ah.out⟩
 ·have aj:Hid (Q=q1):=af (by have h:=HQ.out;rw [if_pos h1] at h;exact h);have aQ:iV q1=.iface 60 (.int .i64 q1):=iF h1;rw [aj.out];have bl:=af h1;have bf:((q1:Nat):Int)≠0:=by omega
  have bo:(((q1:Nat):Int) != 0)=true:=by simpa using bf
  try rw [aQ] at ap⊢
  clear aQ;go_enter Tryz.func50,Tryz.ntmps50;go_wp2_with fail;refine (ap.out _ (gO.refl _)).mono ?_;rintro e w5 ⟨rfl,ag⟩;have ah:=af ag;clear ag;go_wp2;go_ret;exact ⟨rfl,ah.out⟩
def Ky (n:Nat) (F:Nat->Rat):Prop:=∀ s t,s<2^n->t<2^n->iE s t=true->F s<=F t
def Kk {α:Type} (f:α->Rat) (l:List α):Rat:=l.foldl (fun a c=>a*f c) 1
def KM (n a:Nat) (F:Nat->Rat):Prop:=∀ s t,s<2^n->t<2^n->(∀ i,a.testBit i=true->s.testBit i=t.testBit i)->F s=F t
def KQ (q:Nat->Rat) (n s:Nat):Rat:=wQ q (s,0) n
def La (q:Nat->Rat) (n s:Nat):Rat:=wQ q (0,s) n
def KY (f:Nat->Rat) (l:List Nat):Rat:=Kk (fun s=>1 - f s) l
def KW (f:Nat->Rat) (l:List Nat):Rat:=l.foldl (fun a s=>if a<=f s then f s else a) 0
def Lk (l:List Nat) (s:Nat):Bool:=l.all fun t=>!(t &&& s == 0)
section
variable {q:Nat->Rat} {n:Nat} (hq:∀ i,i<n->0<=q i/\q i<=1) {l:List Nat} (hl:∀ t∈l,∀ i,t.testBit i=true->i<n)
include hq hl
end
def Jc:List Nat->Nat->Bool
 | [],_=>true
 | t :: l,a=>(a &&& t == 0)&&Jc l (a ||| t)
def KN (n:Nat) (q q':Nat->Rat):Prop:=∀ i,i<n->0<=q i/\q i<=q' i/\q' i<=1
def KV (n most:Nat):Bool:=(decide (40<n)&&decide (n<=most))||decide (3000<n)
theorem z_ (b:Nat) (w:World) (h0:w.cell? ⟨b,0,none⟩=some (.pointer none)) (ag:w.shape? b=some (167,2)) (aj:w.frozen? ⟨b,0,none⟩=false) :
  Calls Tryz.prog 212 #[.pointer (some ⟨b,0,none⟩)] w fun e w'=>e=.returned (.tuple #[])/\w'=w.setCell ⟨b,0,none⟩ (.pointer (some ⟨b,0,none⟩)):=by
 have hsz:(Tryz.prog.info? 167).map (fun i=>i.size)=some 2:=by kernel_rfl
 obtain ⟨j,hj,ah⟩:=Option.map_eq_some_iff.1 hsz;have ai:j.size≠0:=by rw [ah];decide
 go_enter Tryz.func212,Tryz.ntmps212;go_wp2;rw [Lib.run_to_unsafe w ⟨b,0,none⟩ Tryz.underlying164 Tryz.underlying243 hj ai ag (Nat.zero_lt_succ 1)];simp only [Result.andThen];rw [Oper.upon_value];go_wp2;rw [run_callFunc_extern Tryz.func253 (by kernel_rfl) (by kernel_rfl) (by kernel_rfl) (e:=Extern.AbiNoEscape.same) (by kernel_rfl)];rw [Lib.run_noEscape];simp only [Result.andThen];rw [Oper.upon_value];go_wp2;rw [Lib.run_from_unsafe w ⟨b,0,none⟩ Tryz.underlying243 Tryz.underlying164 hj ag Go.Proofs.Tryz.Builder_Extra_169.liesBuilder];simp only [Result.andThen];rw [Oper.upon_value];go_wp2;go_end0;exact ⟨rfl,rfl⟩
theorem Aa (B b:Nat) (s:ByteArray) (w:World) (hB:B<=b) (ai:w.heap[b]?=some (.cells #[.pointer none,.slice none 0 0] 167 (0,0))) (aA:s.size<=140737488355328) (hBw:B<=w.heap.size) :
  Calls Tryz.prog 149 #[.pointer (some ⟨b,0,none⟩),.string s] w fun e w'=>e=.returned (.tuple #[.int .i64 s.size,.nilIface])/\(Lib.BuilderAt 167 5 B b (.pointer (some ⟨b,0,none⟩)) (Lib.strCells s) w'/\Below B w w'):=by
 obtain ⟨i0,hi,ap,aq,ar⟩:=info_parts Go.Proofs.Tryz.Builder_Extra_169.infoByte
 have aB:b<w.heap.size:=by
  rcases Nat.lt_or_ge b w.heap.size with h' | h'
  ·exact h'
  ·simp [Array.getElem?_eq_none h'] at ai
 have e0:w.cell? ⟨b,0,none⟩=some (.pointer none):=by simp [World.cell?,ai]
 have ef:w.frozen? ⟨b,0,none⟩=false:=Lib.frozen_of_heap ai 0;have es:w.shape? b=some (167,2):=by simp [World.shape?,ai]
 obtain ⟨w1,aj⟩:∃ w1,w1=w.setCell ⟨b,0,none⟩ (.pointer (some ⟨b,0,none⟩)):=⟨_,rfl⟩;have aC:Hid (Calls Tryz.prog 212 #[.pointer (some ⟨b,0,none⟩)] w fun e w'=>e=.returned (.tuple #[])/\w'=w1):=af (by rw [aj];exact z_ b w e0 es ef);obtain ⟨v,hv⟩:∃ v:Value,v=.slice none 0 0:=⟨_,rfl⟩;have aD:Hid (w1.ownsRow B 5 1 v 0 []):=af (by rw [hv];exact World.ownsRow_nil _ _ _ _);have aw:Hid (v.ownBlock=none):=af (by rw [hv];rfl)
 have al:w1.heap[b]?=some (.cells #[.pointer (some ⟨b,0,none⟩),v] 167 (0,0)):=by
  rw [aj,hv];have:=heap_setCell_same w b 0 _ _ (.pointer (some ⟨b,0,none⟩)) ai;simpa using this
 have ay:Below B w w1:=by rw [aj];exact (Below.refl B w).setCell (p:=⟨b,0,none⟩) hB _
 have az:w1.heap.size=w.heap.size:=by rw [aj];simp
 have c0:w1.cell? ⟨b,0,none⟩=some (.pointer (some ⟨b,0,none⟩)):=by rw [Lib.cell_of_heap al];rfl
 have c1:w1.cell? ⟨b,1,none⟩=some v:=by rw [Lib.cell_of_heap al];rfl
 have aF:=af al;have aG:=af ay;have HI:=af hi;have aH:=af ap;have aI:=af aq;have aJ:=af ar;clear aj hv ai e0 ef es al ay hi ap aq ar;go_enter Tryz.func149,Tryz.ntmps149;go_wp2_with (go_at_call 212;refine aC.out.mono ?_);rintro e w1' ⟨rfl,rfl⟩;go_wp2_with (at_builtin;refine Lib.wpList_append_own_string _ rfl _ _ 165 9 rfl B 5 i0 Tryz.underlying165 Tryz.underlying9 HI.out aH.out aI.out aJ.out v 0 [] rfl aD.out s rfl ?c3 ?c4 ?c5 ?_)
 case c3=>unfold maxLen;omega
 case c4=>omega
 case c5=>omega
 intro v' w2 ag ah _
 have am:w2.heap[b]?=some (.cells #[.pointer (some ⟨b,0,none⟩),v] 167 (0,0)):=by
  rw [ah.block b (by rw [az];exact aB) (fun e=>by rw [aw.out] at e;cases e)];exact aF.out
 have d0:w2.cell? ⟨b,0,none⟩=some (.pointer (some ⟨b,0,none⟩)):=by rw [Lib.cell_of_heap am];rfl
 have d1:w2.cell? ⟨b,1,none⟩=some v:=by rw [Lib.cell_of_heap am];rfl
 have f1:w2.frozen? ⟨b,1,none⟩=false:=Lib.frozen_of_heap am 1
 obtain ⟨ao,n',cap,rfl⟩:∃ ao n' cap,v'=.slice ao n' cap:=by
  rcases ag.2 with ⟨hv,_⟩ | ⟨g,cap,cur,hv,_⟩
  ·exact ⟨_,_,_,hv⟩
  ·exact ⟨_,_,_,hv⟩
 go_wp2;go_ret2;refine ⟨rfl,?_,?_⟩
 ·exact Lib.BuilderAt.put (T:=167) (e:=5) hB am (bs':=Lib.strCells s) (by simpa [Lib.strCells_length] using ag) Go.Proofs.Tryz.Builder_Extra_169.neB5
 ·exact (aG.out.grown ah (by rw [az];exact hBw) (fun k hk=>by rw [aw.out] at hk;cases hk)).setCell (p:=⟨b,1,none⟩) hB _
def te (r k:Nat):List Value:=(List.range 9).map fun j=>.int .u8 (((if 9<=j+k then 48+r / 10^(8 - j) % 10 else 0:Nat)):Int)
theorem CI (r k:Nat) (hk:k<9):(te r k).set (8 - k) (.int .u8 ((48+r / 10^k % 10:Nat):Int))=te r (k+1):=by
 match k,hk with
 | 0,_=>rfl
 | 1,_=>rfl
 | 2,_=>rfl
 | 3,_=>rfl
 | 4,_=>rfl
 | 5,_=>rfl
 | 6,_=>rfl
 | 7,_=>rfl
 | 8,_=>rfl
def ow (r:Nat):List UInt8:=(List.range 9).map fun j=>UInt8.ofNat (48+r / 10^(8 - j) % 10)
theorem mi (r:Nat):(ow r).length=9:=by unfold ow;simp
theorem DA (r j:Nat) (h:j<(ow r).length):(((ow r)[j].toNat:Nat):Int)=((48+r / 10^(8 - j) % 10:Nat):Int):=by
 rw [mi] at h
 have:r / 10^(8 - j) % 10<10:=Nat.mod_lt _ (by decide)
 simp [ow];omega
theorem EG (r j:Nat) (h:j<9):(te r 9)[j]'(by simp [te];omega)=.int .u8 ((48+r / 10^(8 - j) % 10:Nat):Int):=by
 simp [te]
theorem FH (r:Nat) (hr:r<4294967296) (w:World):Calls Tryz.prog 148 #[.int .u32 r] w fun e w'=>e=.returned (.string ⟨(ow r).toArray⟩)/\gO w w':=by
 obtain ⟨w1,ag⟩:∃ w1,w1=w.alloc (.cells #[.int .u8 0,.int .u8 0,.int .u8 0,.int .u8 0,.int .u8 0,.int .u8 0,.int .u8 0,.int .u8 0,.int .u8 0] 211):=⟨_,rfl⟩;have al:Hid (gS w1 w.heap.size 211 (te r 0)):=af (by rw [ag];exact gS.made w #[.int .u8 0,.int .u8 0,.int .u8 0,.int .u8 0,.int .u8 0,.int .u8 0,.int .u8 0,.int .u8 0,.int .u8 0] 211);have am:Hid (gO w w1):=af (by rw [ag];exact (gO.refl w).alloc _);have ap:=af ag
 have aq:Hid (∀ W,gS W w.heap.size 211 (te r 9)->(convert 165 9 (.slice (some ⟨w.heap.size,0,none⟩) 9 9)).run Tryz.prog W=.ok (.string ⟨(ow r).toArray⟩) W):=af fun W hW=>by
  have h:=run_convert_bytes_back (P:=Tryz.prog) W 165 9 5 ⟨w.heap.size,0,none⟩ 9 (ow r) Tryz.underlying165 Tryz.underlying5 Tryz.underlying9 (fun j hj=>by
   have ar:j<9:=by rw [mi] at hj;exact hj
   have h1:=hW.cell (i:=j) (by simp [te];omega);rw [EG r j ar,<-DA r j hj] at h1;rw [show ({ block:=w.heap.size,off:=0 }:Addr).add j=⟨w.heap.size,j,none⟩ by unfold Addr.add;split <;> simp_all];exact h1)
  rw [mi] at h;exact h
 clear ag;go_enter Tryz.func148,Tryz.ntmps148;go_wp2_with fail;try rw [<-ap.out]
 go_loopg [0,4] 9 (fun kx s0 s4 wr=>∃ k:Nat,k<=9/\s4=.int .i64 (8 - (k:Int))/\9 - k<=kx/\s0=.int .u32 (r / 10^k:Nat)/\Hid (gS wr w.heap.size 211 (te r k))/\Hid (gO w wr))
 case atStart=>exact ⟨0,Nat.zero_le _,rfl,by omega,by simp,al,am⟩
 case round =>
  obtain ⟨k,hk,rfl,aC,rfl,HR,HK⟩:=hrel;by_cases aw:k<9
  ·have ay:0<=(8 - (k:Int)):=by omega
   have ah:=af (CI r k aw);have hd:r / 10^k<4294967296:=Nat.lt_of_le_of_lt (Nat.div_le_self _ _) hr;have ai:Hid (r / 10^(k+1)=r / 10^k / 10):=af (by rw [Nat.pow_succ,Nat.div_div_eq_div_mul]);obtain ⟨m,hm⟩:∃ m,m=r / 10^k:=⟨_,rfl⟩;rw [<-hm] at hd ah ai⊢;obtain ⟨d,az⟩:∃ d,d=m % 10:=⟨_,rfl⟩;have aA:d<10:=by omega
   have f0:=HR.out.free (8 - k);have aB:Hid (8 - k<(te r k).length):=af (by simp [te];omega);have hc:=HR.out.cell (i:=8 - k) aB.out;have aD:(8 - (k:Int)).toNat=8 - k:=by omega
   have aF:(8 - (k:Int))<9:=by omega
   have p1:Int.tmod (m:Int) 10=(d:Int):=by rw [az];exact Int.ofNat_tmod m 10
   have p2:IntKind.u32.wrap (48+(d:Int))=((48+d:Nat):Int):=by rw [IntKind.wrap_u32];omega
   have p3:IntKind.u8.wrap ((48+d:Nat):Int)=((48+d:Nat):Int):=by rw [IntKind.wrap_u8];omega
   clear hm;go_wp2;go_roundg (9 - (k+1))
   case measure=>omega
   case rel =>
    refine ⟨k+1,by omega,by go_num,Nat.le_refl _,?_,?_,?_⟩
    ·rw [ai.out];simp
    ·refine af ?_;have h:=HR.out.store (8 - k) (.int .u8 ((48+m % 10:Nat):Int));rw [ah.out] at h;simpa using h
    ·exact af (HK.out.store (Nat.le_refl _) _ _)
  ·have aj:k=9:=by omega
   have ay:¬ 0<=(8 - (k:Int)):=by omega
   rw [aj] at HR;have aG:=aq.out wr HR.out;clear aj;go_wp2;go_ret;exact ⟨rfl,HK.out⟩
theorem Fp:(Tryz.prog.info? 9).map (fun i=>(i.zero,i.size,i.bytes))=some (some (.string .empty),1,16):=by kernel_rfl
theorem DC {w:World} {B:Nat} {e:TypeId} {v y:Value} (h:w.ownsRow B e 1 v 1 [y]):∃ g cap,v=.slice (some ⟨g,0,none⟩) 1 cap/\w.cell? ⟨g,0,none⟩=some y:=by
 obtain ⟨_,h2⟩:=h;rcases h2 with ⟨_,h⟩ | ⟨g,cap,cur,rfl,h5,h6,h7,h8,h9,ag⟩
 ·cases h
 ·refine ⟨g,cap,rfl,?_⟩
  have e1:(cur.toList.take 1)[0]?=some y:=by
   have:=congrArg (fun l=>l[0]?) ag;simpa using this
  simp only [World.cell?,h6];simpa using e1
theorem tQ {n:Nat} (h0:n≠0) (h:n<4294967296):nw n=[n]:=by
 rw [rE h0,Nat.mod_eq_of_lt h,Nat.div_eq_of_lt h,jE]
theorem vS (v:Value) (xs:List Nat) (n:Nat) (l:List UInt8) (w:World) (hv:WdsAt w v xs) (hn:nv xs=n) (h0:n≠0) (h9:n<1000000000) (hl:Lib.trimLeftB (ow n) 48=l) (aj:l≠[]) :
  Calls Tryz.prog 92 #[v] w fun e w'=>e=.returned (.string ⟨l.toArray⟩)/\gO w w':=by
 have HT:Hid (Calls Tryz.prog 116 #[v] w fun e w'=>(∃ v',e=.returned v'/\WdsAt w' v' [n])/\gO w w'):=af (by have h:=iQ v xs w hv;rw [hn,tQ h0 (by omega)] at h;exact h)
 have aJ:Hid (∀ W va,WdsAt W va [n]->Calls Tryz.prog 147 #[va,.int .u32 (1000000000:Nat)] W fun e w'=>(∃ v',e=.returned (.tuple #[v',.int .u32 n])/\WdsAt w' v' [])/\gO W w'):=af fun W va h=>by
  have h:=wt va [n] 1000000000 W h (by omega) (by omega);have e1:nv [n]=n:=by simp [nv]
  rw [e1,Nat.mod_eq_of_lt h9,Nat.div_eq_of_lt h9,jE] at h;exact h
 have ar:=af (fun W=>FH n (by omega) W);obtain ⟨N9,al⟩:∃ N9,N9=ow n:=⟨_,rfl⟩;have ag:Hid (N9.length=9):=af (by rw [al];exact mi n)
 have aK:Hid (N9≠[]):=af fun h=>by
  have h2:=ag.out;rw [h] at h2;simp at h2
 rw [<-al] at ar hl
 have aL:Hid (∀ W,Calls Tryz.prog 150 #[.string ⟨N9.toArray⟩,.string ⟨#[48]⟩] W fun e w'=>e=.returned (.string ⟨l.toArray⟩)/\w'=W):=af fun W=>by
  have h:=Go.Proofs.Tryz.strings_TrimLeft_one ⟨N9.toArray⟩ 48 (by decide) W;rw [show (⟨N9.toArray⟩:ByteArray).data.toList=N9 from rfl,hl] at h;exact h
 have aV:Hid ((⟨l.toArray⟩:ByteArray)≠⟨#[]⟩):=af fun h=>aj (by
  have:=congrArg (fun b=>b.data.toList) h;simpa using this)
 have aW:l.isEmpty=false:=by cases l with
  | nil=>exact absurd rfl aj
  | cons _ _=>rfl
 have HV:=af hv;obtain ⟨av,cv,rfl⟩:=hv.shape;clear hv hn h9 hl aj al;go_enter Tryz.func92,Tryz.ntmps92;go_wp2_with fail;refine HT.out.mono ?_;rintro e w2 ⟨⟨v2,rfl,aw⟩,ay⟩;have aM:=af aw;have aN:=af ay;clear aw ay;go_wp2_with fail;go_loopg [0,3] 1 (fun kx s0 s3 wr=>((1<=kx/\s3=.slice none 0 0/\Hid (WdsAt wr s0 [n]))\/(Hid (WdsAt wr s0 [])/\Hid (wr.ownsRow w2.heap.size 9 1 s3 1 [.string ⟨N9.toArray⟩])))/\Hid (gO w2 wr))
 case atStart=>exact ⟨.inl ⟨Nat.le_refl _,rfl,aM⟩,af (gO.refl _)⟩
 case round =>
  obtain ⟨am,HK⟩:=hrel;rcases am with ⟨aO,rfl,HA⟩ | ⟨HA,HO⟩
  ·obtain ⟨a0,c0,rfl⟩:=HA.out.shape;simp only [List.length_singleton] at HA⊢
   go_wp2_with (first
    | (go_at_call 147;refine (aJ.out _ _ HA.out).mono ?_;rintro e w3 ⟨⟨v3,rfl,az⟩,aA⟩;have aP:=af az;have aB:=af aA;clear az aA)
    | (go_at_call 148;refine (ar.out _).mono ?_;rintro e w4 ⟨rfl,aC⟩;have aD:=af aC;clear aC)
    | (at_builtin;refine sT 160 9 _ 16 Fp Tryz.underlying160 rfl rfl _ _ rfl w2.heap.size _ [] rfl (World.ownsRow_nil _ _ _ _) _ (.string ⟨N9.toArray⟩) rfl (by simp) rfl (by simp) (by simp [maxLen]) (by have:=HK.out.size;have:=aB.out.size;have:=aD.out.size;simp;omega) ?_;intro v' w' h5 _ h6;have H5:=af h5;have H6:=af h6;clear h5 h6))
   go_roundg 0
   case measure=>omega
   case rel =>
    have hk:=((HK.out.trans aB.out).trans aD.out).alloc (.cells #[.string ⟨N9.toArray⟩] 9);refine ⟨.inr ⟨af ?_,af (by simpa using H5.out)⟩,af (hk.app H6.out)⟩;obtain ⟨a9,c9,i1,i2,i3,i4,_⟩:=aP.out;exact ⟨a9,c9,i1,i2,i3,i4,fun i hi=>by simp at hi⟩
  ·obtain ⟨a0,c0,rfl⟩:=HA.out.shape;simp only [List.length_nil] at HA⊢;obtain ⟨g3,cap3,rfl,aF⟩:=DC HO.out;have aQ:=af aF;clear aF;go_wp2_with fail;obtain ⟨w4,ah⟩:∃ w4,w4=wr.alloc (.cells #[.pointer none,.slice none 0 0] 167):=⟨_,rfl⟩;have ap:Hid (w4.heap[wr.heap.size]?=some (.cells #[.pointer none,.slice none 0 0] 167 (0,0))):=af (by rw [ah];exact heap_alloc_new wr _);have aq:Hid (gO wr w4):=af (by rw [ah];exact (gO.refl wr).alloc _);try rw [<-ah]
   clear ah;have aR:Hid (∀ W,Lib.BuilderAt 167 5 wr.heap.size wr.heap.size (.pointer (some ⟨wr.heap.size,0,none⟩)) (Lib.byteCells N9) W->gO wr W->Calls Tryz.prog 151 #[.pointer (some ⟨wr.heap.size,0,none⟩)] W fun e w'=>e=.returned (.string ⟨N9.toArray⟩)/\gO wr w'):=af fun W hb hk=>(Go.Proofs.Tryz.Builder_String wr.heap.size wr.heap.size N9 W (.inr hb) aK.out).mono fun e w' ⟨h1,h2⟩=>⟨h1,hk.app h2⟩
   go_loopg [7] 1 (fun kx s7 W=>((1<=kx/\s7=.int .i64 0/\Hid (W.heap[wr.heap.size]?=some (.cells #[.pointer none,.slice none 0 0] 167 (0,0))))\/(s7=.int .i64 (-1)/\Hid (Lib.BuilderAt 167 5 wr.heap.size wr.heap.size (.pointer (some ⟨wr.heap.size,0,none⟩)) (Lib.byteCells N9) W)))/\Hid (gO wr W))
   case atStart=>exact ⟨.inl ⟨Nat.le_refl _,rfl,ap⟩,aq⟩
   case round =>
    obtain ⟨am,ai⟩:=hrel;rcases am with ⟨aO,rfl,HB⟩ | ⟨rfl,HB⟩
    ·have aX:=ai.out.cell aQ.out;go_wp2_with (go_at_call 149;refine (Aa _ _ ⟨N9.toArray⟩ _ (Nat.le_refl _) HB.out (by show N9.toArray.size<=_;rw [List.size_toArray,ag.out];omega) ai.out.size).mono ?_;rintro e w5 ⟨rfl,aG,aH⟩;have aS:=af aG;have aT:=af aH;clear aG aH);go_roundg 0
     case measure=>omega
     case rel=>exact ⟨.inr ⟨by go_num,af aS.out⟩,af (ai.out.app aT.out)⟩
    ·go_wp2_with (first
      | (go_at_call 151;refine (aR.out _ HB.out ai.out).mono ?_;rintro e w6 ⟨rfl,aI⟩;have aU:=af aI;clear aI)
      | (go_at_call 150;refine (aL.out _).mono ?_;rintro e w7 ⟨rfl,rfl⟩))
     go_ret;exact ⟨rfl,aN.out.trans (HK.out.trans aU.out)⟩
theorem DG {q:Rat} (h:q.num≠0):gP (gR q)=(decide (q.num<0),nw q.num.natAbs,nw q.den):=by
 have hv:=nF q;have hc:gR q=⟨decide (q.num<0),nw q.num.natAbs,nw q.den⟩:=by unfold gR;rw [if_neg h]
 unfold gP;rw [if_pos]
 ·rw [hc]
 ·refine ⟨hv,?_⟩;rw [hc];exact fun e=>absurd (kl.1 e) (by omega)
theorem od (v:Value) (q:Rat) (a b:Nat) (la lb s:List UInt8) (w:World) (hv:RatAt w v (gR q)) (hq:q.num=(a:Int)) (hd:q.den=b) (ag:a≠0) (ap:a<1000000000) (aG:1<b) (aq:b<1000000000)
  (ah:Lib.trimLeftB (ow a) 48=la) (ai:Lib.trimLeftB (ow b) 48=lb) (ar:la≠[]) (aw:lb≠[]) (hs:la++47 :: lb=s) :
  Calls Tryz.prog 44 #[v] w fun e w'=>e=.returned (.string ⟨s.toArray⟩)/\gO w w':=by
 have hp:gP (gR q)=(false,[a],[b]):=by
  rw [DG (by rw [hq];omega),hq,hd,Int.natAbs_natCast,tQ ag (by omega),tQ (n:=b) (by omega) (by omega)];simp
 have aH:Hid (∀ W,gO w W->Calls Tryz.prog 62 #[v] W fun e w'=>(∃ u1 u2,e=.returned (.tuple #[.bool false,u1,u2])/\WdsAt w' u1 [a]/\WdsAt w' u2 [b])/\gO W w'):=af fun W hk=>by
  have ay:(gR q).Short 1:=by
   have hc:gR q=⟨decide (q.num<0),nw q.num.natAbs,nw q.den⟩:=by unfold gR;rw [if_neg (by rw [hq];omega)]
   rw [hc,hq,hd,Int.natAbs_natCast,tQ ag (by omega),tQ (n:=b) (by omega) (by omega)];exact ⟨Nat.le_refl _,Nat.le_refl _⟩
  have h:=ju v (gR q) W (hv.kept hk) ⟨Nat.le_trans ay.1 (by omega),Nat.le_trans ay.2 (by omega)⟩;rw [hp] at h;exact h
 have aI:=af (fun W u (h:WdsAt W u [a])=>vS u [a] a la W h (by simp [nv]) ag ap ah ar);have aJ:=af (fun W u (h:WdsAt W u [b])=>vS u [b] b lb W h (by simp [nv]) (by omega) aq ai aw)
 have aK:Hid (∀ W u1 u2,WdsAt W u1 [b]->WdsAt W u2 [1]->Calls Tryz.prog 69 #[u1,u2] W fun e w'=>e=.returned (.int .i64 1)/\gO W w'):=af fun W u1 u2 h1 h2=>by
  have h:=lB u1 u2 [b] [1] W h1 h2;have e1:nv [b]=b:=by simp [nv]
  have e2:nv [1]=1:=rfl;rw [e1,e2] at h;have e3:kv b 1=1:=by unfold kv;rw [if_neg (by omega),if_pos (by omega)]
  rwa [e3] at h
 have HS:Hid ((⟨la.toArray⟩:ByteArray)++((⟨#[47]⟩:ByteArray)++⟨lb.toArray⟩)=⟨s.toArray⟩):=af (by
  apply ByteArray.ext;rw [ByteArray.data_append,ByteArray.data_append];apply Array.toList_inj.1;simp [<-hs])
 have aL:la.length<=9:=by rw [<-ah,<-mi a];exact (List.dropWhile_sublist _).length_le
 have aM:lb.length<=9:=by rw [<-ai,<-mi b];exact (List.dropWhile_sublist _).length_le
 have aX:¬ 9223372036854775807<1+lb.length:=by omega
 have aY:¬ 9223372036854775807<la.length+(1+lb.length):=by omega
 obtain ⟨u1,u2,rfl,h1,h2⟩:=hv;obtain ⟨a1,c1,rfl⟩:=h1.shape;obtain ⟨a2,c2,rfl⟩:=h2.shape;generalize (gR q).num.length=n1 at *;generalize (gR q).den.length=n2 at *;generalize (gR q).neg=b0 at *;clear h1 h2 hp hq hd ag ap aG aq ah ai ar aw hs aL aM;go_enter Tryz.func44,Tryz.ntmps44
 go_wp2_with (first
  | (go_at_call 62;refine (aH.out _ ((gO.refl w).alloc _)).mono ?_;rintro e w2 ⟨⟨u1,u2,rfl,az,aA⟩,aB⟩;have aN:=af az;have aO:=af aA;have aP:=af (((gO.refl w).alloc _).trans aB);clear az aA aB)
  | (go_at_call 92;(with_reducible refine (aI.out _ _ aN.out).mono ?_);rintro e w3 ⟨rfl,aj⟩;have aQ:=af (aO.out.kept aj);have aR:=af (aP.out.trans aj);clear aj)
  | (go_at_call 93;refine (oR _).mono ?_;rintro e w4 ⟨⟨u4,rfl,aC⟩,al⟩;have aS:=af aC;have aD:=af (aQ.out.kept al);have aT:=af (aR.out.trans al);clear aC al)
  | (go_at_call 69;refine (aK.out _ _ _ aD.out aS.out).mono ?_;rintro e w5 ⟨rfl,am⟩;have aU:=af (aD.out.kept am);have aV:=af (aT.out.trans am);clear am)
  | (go_at_call 92;refine (aJ.out _ _ aU.out).mono ?_;rintro e w6 ⟨rfl,aF⟩;have aW:=af (aV.out.trans aF);clear aF))
 go_ret;exact ⟨by rw [HS.out];rfl,aW.out⟩
theorem rL (n d:Nat) (w:World) (hn:n<9223372036854775808) (hd:d<9223372036854775808) (am:d≠0):Calls Tryz.prog 85 #[.int .i64 n,.int .i64 d] w fun e w'=>(∃ v',e=.returned (.tuple #[v',.nilIface])/\RatAt w' v' (gR (mkRat n d)))/\gO w w':=by
 have aB:Hid (∀ W,Calls Tryz.prog 142 #[.int .i64 n] W fun e w'=>(∃ v',e=.returned v'/\WdsAt w' v' (nw n))/\gO W w'):=af fun W=>by have h:=xK n W (by omega) (by omega);rw [Int.natAbs_natCast] at h;exact h
 have aC:Hid (∀ W,Calls Tryz.prog 142 #[.int .i64 d] W fun e w'=>(∃ v',e=.returned v'/\WdsAt w' v' (nw d))/\gO W w'):=af fun W=>by have h:=xK d W (by omega) (by omega);rw [Int.natAbs_natCast] at h;exact h
 obtain ⟨R,hR⟩:∃ R,R=gR (mkRat n d):=⟨_,rfl⟩
 have aD:Hid (∀ W u1 u2,WdsAt W u1 (nw n)->WdsAt W u2 (nw d)->Calls Tryz.prog 141 #[.bool false,u1,u2] W fun e w'=>(∃ v,e=.returned v/\RatAt w' v R)/\gO W w'):=af fun W u1 u2 k1 k2=>by
  have aS:(nw n).length<=2:=iw.2 (by rw [show (4294967296:Nat)^2=18446744073709551616 by rfl];omega);have aT:(nw d).length<=2:=iw.2 (by rw [show (4294967296:Nat)^2=18446744073709551616 by rfl];omega);have h:=lf false u1 u2 _ _ W k1 k2 (by omega) (by omega) (by rw [gW];exact am);rw [gW,gW,jA _ _ _ am,show sg false n=(n:Int) from rfl,<-hR] at h;exact h
 rw [<-hR];generalize nw n=X at *;generalize nw d=Y at *;obtain ⟨w2,ai⟩:∃ w2,w2=w.alloc (.cells #[.bool false,.slice none 0 0,.slice none 0 0] 29):=⟨_,rfl⟩;have HR:Hid (gS w2 w.heap.size 29 [.bool false,.slice none 0 0,.slice none 0 0]):=af (by rw [ai];exact gS.made w #[.bool false,.slice none 0 0,.slice none 0 0] 29);have aF:Hid (iX w2 w.heap.size [.bool false,.slice none 0 0,.slice none 0 0]):=af (by rw [ai];exact iX.made w #[.bool false,.slice none 0 0,.slice none 0 0] 29);have aG:Hid (gO w w2):=af (by rw [ai];exact (gO.refl w).alloc _);have aH:=af ai;have aU:¬ (n:Int)<0:=by omega
 have aV:¬ (d:Int)<0:=by omega
 have aW:((d:Int) == 0)=false:=by simp;omega
 have aI:¬ (d:Int)=0:=by omega
 clear ai hR hn hd am;go_enter Tryz.func85,Tryz.ntmps85;go_wp2_with fail;rw [<-aH.out];refine (aB.out _).mono ?_;rintro e w3 ⟨⟨v3,rfl,ay⟩,al⟩;have aJ:=af ay;have aK:=af (HR.out.kept al);have aL:=af (aF.out.kept al);have aM:=af (aG.out.trans al);clear ay al;go_wp2_with fail;refine (aC.out _).mono ?_;rintro e w4 ⟨⟨v4,rfl,az⟩,aj⟩;have aN:=af az;have ap:=af (aJ.out.kept aj);have aO:=af (aK.out.kept aj);have aP:=af (aL.out.kept aj);have aQ:=af (aM.out.trans aj);clear az aj;go_wp2_with fail;refine (aD.out _ _ _ ap.out aN.out).mono ?_;rintro e w10 ⟨⟨v10,rfl,aq⟩,ah⟩;have ag:=aO.out.kept ah;have ar:=af (aP.out.kept ah);have aw:=af (aQ.out.trans ah);obtain ⟨u7,u8,rfl,k7,k8⟩:=aq;obtain ⟨a7,c7,rfl⟩:=k7.shape;obtain ⟨a8,c8,rfl⟩:=k8.shape;obtain ⟨y0,y1,y2,aA⟩:=iC ag ar.out k7 k8;have g0:=ag.cell (i:=0) (by simp);have g1:=ag.cell (i:=1) (by simp);have g2:=ag.cell (i:=2) (by simp);have f0:=ag.free 0;have f1:=ag.free 1;have f2:=ag.free 2;have aR:=af aA;have Y0:=af y0;have Y1:=af y1;have Y2:=af y2;clear aA y0 y1 y2 k7 k8 ag ah;generalize R.num.length=n7 at *;generalize R.den.length=n8 at *;go_wp2;refine bodyPost_ret (v:=.tuple #[.agg #[.bool R.neg,.slice a7 n7 c7,.slice a8 n8 c8],.nilIface]) ?_ rfl ⟨⟨_,rfl,aR.out⟩,?_⟩
 ·simp [results,Tryz.results85,go_sem,Y0.out,Y1.out,Y2.out]
 ·exact ((aw.out.store (by omega) _ _).store (by omega) _ _).store (by omega) _ _
def KD (L:List (Nat × Nat)) (ps:List Rw):Nat × Rat :=
 if L.any (fun c=>decide ((ps.length:Int)<=oy (c.1 ||| c.2)))=true then (11,0) else if kQ ps=true then (3,0) else (0,IY ps L L.length)
def Ls (L0:List (Int × Int)) (ps:List Rw):Nat × Rat:=if Kc L0≠0 then (Kc L0,0) else KD (L0.map Jw) ps
theorem tT {q:Rat} (h0:0<=q) (h1:q<=1):lD (gR q)=true:=by
 rw [tU (ls q),nF,gV]
 have s1:0<=kr q:=by
  unfold kr;by_cases h:q=0
  ·rw [if_pos h];decide
  ·rw [if_neg h,if_neg (by grind)];decide
 have s2:kr (q - ((1:Int):Rat))<=0:=by
  have e:((1:Int):Rat)=1:=rfl;rw [e];unfold kr;by_cases h:q - 1=0
  ·rw [if_pos h];decide
  ·rw [if_neg h,if_pos (by grind)];decide
 rw [decide_eq_true s1,decide_eq_true s2];rfl
theorem Ep {r:Rw} (hw:r.Ok) (h:lD r=true):0<=gT r/\gT r<=1:=by
 rw [tU hw,Bool.and_eq_true,Bool.and_eq_true,decide_eq_true_eq,decide_eq_true_eq] at h;obtain ⟨_,h1,h2⟩:=h;have e:((1:Int):Rat)=1:=rfl;rw [e] at h2;unfold kr at h1 h2;constructor
 ·split at h1
  ·grind
  ·split at h1 <;> first | grind | omega
 ·split at h2
  ·grind
  ·split at h2 <;> first | grind | omega
theorem pD {q:Rat} (h1:q.num.natAbs<4294967296) (h2:q.den<4294967296):(gR q).Short 1:=by
 unfold gR;split
 ·exact ⟨Nat.zero_le _,Nat.zero_le _⟩
 ·exact ⟨iw.2 (by simpa using h1),iw.2 (by simpa using h2)⟩
def mW:List Rw:=[gR (mkRat 1 10),gR (mkRat 1 5),gR (mkRat 1 4)]
theorem yp:∀ r∈mW,r.Short 1:=fun r hr=>by
 simp only [mW,List.mem_cons,List.not_mem_nil,or_false] at hr;rcases hr with rfl | rfl | rfl
 ·exact pD (by decide +kernel) (by decide +kernel)
 ·exact pD (by decide +kernel) (by decide +kernel)
 ·exact pD (by decide +kernel) (by decide +kernel)
theorem rm:∀ r∈mW,r.Short 3:=fun r hr=>⟨Nat.le_trans (yp r hr).1 (by omega),Nat.le_trans (yp r hr).2 (by omega)⟩
theorem wX:kQ mW=false:=by
 unfold kQ;rw [List.any_eq_false];intro r hr;simp only [mW,List.mem_cons,List.not_mem_nil,or_false] at hr;rcases hr with rfl | rfl | rfl
 ·rw [tT (by decide +kernel) (by decide +kernel)];simp
 ·rw [tT (by decide +kernel) (by decide +kernel)];simp
 ·rw [tT (by decide +kernel) (by decide +kernel)];simp
set_option linter.unusedSimpArgs false in
theorem Jj:ku [1,6]=0:=by
 obtain ⟨h0,h1,h2,h3,h4,h5,h6,h7⟩:=Kj;simp +decide [ku,kS,Jz,iz,iA,oK,lI,iy,nP,iu,h0,h1,h2,h3,h4,h5,h6,h7]
def nh (ps:List Rw):List Rw:=ps.map fun r=>gR (1 - gT r)
def ir (f:Nat->Rat) (l:List Nat):Rat:=l.foldl (fun a s=>a*(1 - f s)) 1
def ik (f:Nat->Rat) (l:List Nat):Rat:=l.foldl (fun a s=>mH a (f s)) 0
def fQ (ps:List Rw) (s:Nat):Rat:=kE s ps ps.length
def gQ (ps:List Rw) (s:Nat):Rat:=kE s (nh ps) (nh ps).length
theorem md (ps:List Rw):(nh ps).length=ps.length:=List.length_map ..
theorem JW (ps:List Rw):∀ r∈nh ps,r.Ok:=fun r hr=>by
 obtain ⟨x,_,rfl⟩:=List.mem_map.1 hr;exact ls _
theorem zV (ps:List Rw) {k:Nat} (hk:k<ps.length):(nh ps).take (k+1)=(nh ps).take k++[gR (1 - gT (ps.getD k default))]:=by
 rw [List.take_succ_eq_append_getElem (by rw [md];exact hk)];congr 2;simp [nh,List.getD_eq_getElem?_getD,hk]
theorem p' (f:Nat->Rat) (l:List Nat) {k:Nat} (hk:k<l.length):ir f (l.take (k+1))=ir f (l.take k)*(1 - f l[k]):=by
 unfold ir;rw [List.take_succ_eq_append_getElem hk,List.foldl_append];rfl
theorem oH (f:Nat->Rat) (l:List Nat) {k:Nat} (hk:k<l.length):ik f (l.take (k+1))=mH (ik f (l.take k)) (f l[k]):=by
 unfold ik;rw [List.take_succ_eq_append_getElem hk,List.foldl_append];rfl
theorem AU {n d:Nat} (hd:d≠0) (h:n<=d):(1:Rat) - mkRat (sg false n) d=mkRat (sg false (d - n)) d:=by
 have e:mkRat (sg false (d - n)) d+mkRat (sg false n) d=1:=by
  rw [Rat.mkRat_add_mkRat _ _ hd hd];have e1:(1:Rat)=mkRat 1 1:=rfl;rw [e1,Rat.mkRat_eq_iff (Nat.mul_ne_zero hd hd) (by decide)];have e2:((d - n:Nat):Int)=(d:Int) - n:=by omega
  simp only [sg]
  push_cast
  grind
 grind
theorem Bw {r:Rw} (hw:r.Ok) (h:lD r=true) {k:Nat} (h3:r.Short k) (hk:1<=k):(gR (1 - gT r)).Short k:=by
 have ag:=ij hw;have ah:=il h3 hk;have hu:=Ep hw h
 have h1:(gP r).1=false:=by
  unfold lD at h;simp only [Bool.and_eq_true,Bool.not_eq_true'] at h;unfold gP;split
  ·exact h.1.2
  ·rfl
 have h2:nv (gP r).2.1<=nv (gP r).2.2:=by
  unfold lD at h;simp only [Bool.and_eq_true,decide_eq_true_eq] at h;unfold gP;split
  ·exact h.2
  ·exact Nat.zero_le _
 have e:1 - gT r=mkRat (sg false (nv (gP r).2.2 - nv (gP r).2.1)) (nv (gP r).2.2):=by
  unfold gT;rw [h1];exact AU ag.2.2.1 h2
 rw [e];exact kR _ ag.2.2.1 (Nat.le_trans (jk (Nat.sub_le _ _)) (w_ ag.2.1 ah.2)) (w_ ag.2.1 ah.2)
theorem EI {ps:List Rw} (h:kQ ps=false):∀ r∈ps,lD r=true:=fun r hr=>by
 unfold kQ at h;rw [List.any_eq_false] at h;simpa using h r hr
theorem rV {ps:List Rw} (ag:∀ r∈ps,r.Ok) (hb:kQ ps=false) {k:Nat} (h3:∀ r∈ps,r.Short k) (hk:1<=k):∀ r∈nh ps,r.Short k:=fun r hr=>by
 obtain ⟨x,hx,rfl⟩:=List.mem_map.1 hr;exact Bw (ag x hx) (EI hb x hx) (h3 x hx) hk
theorem mj:(gR 1).Short 1:=⟨by decide +kernel,by decide +kernel⟩
theorem kF {x:Rat} {k:Nat} (h:(gR x).Short k) (hk:1<=k):(gR (1 - x)).Short (k+2):=by
 have h2:=Ec (ls 1) (ls x) mj h (by decide) hk;rw [gV,gV] at h2;exact ⟨Nat.le_trans h2.1 (by omega),Nat.le_trans h2.2 (by omega)⟩
theorem qb {f:Nat->Rat} {c:Nat} (hc:1<=c):∀ {l:List Nat},(∀ s∈l,(gR (f s)).Short c)->∀ k,k<=l.length->(gR (ir f (l.take k))).Short ((c+2)*k+1):=by
 intro l h k;induction k with
 | zero=>intro _;exact mj
 | succ k ih =>
  intro hk;have hl:k<l.length:=by omega
  rw [p' f l hl];have h2:=rO (ls (ir f (l.take k))) (ls (1 - f l[k])) (ih (by omega)) (kF (h _ (List.getElem_mem hl)) hc) (by omega) (by omega);rw [gV,gV] at h2;have e:(c+2)*(k+1)=(c+2)*k+(c+2):=Nat.mul_succ _ _;exact ⟨Nat.le_trans h2.1 (by omega),Nat.le_trans h2.2 (by omega)⟩
theorem yx {f:Nat->Rat} {c:Nat} (hc:1<=c) {l:List Nat} (h:∀ s∈l,(gR (f s)).Short c):∀ k,k<=l.length->(gR (ik f (l.take k))).Short c:=by
 intro k;induction k with
 | zero=>intro _;exact ⟨by show (gR 0).num.length<=c;exact Nat.le_trans (show (gR 0).num.length<=0 by decide) (by omega),by show (gR 0).den.length<=c;exact Nat.le_trans (show (gR 0).den.length<=0 by decide) (by omega)⟩
 | succ k ih =>
  intro hk;have hl:k<l.length:=by omega
  rw [oH f l hl];unfold mH;split
  ·exact ih (by omega)
  ·exact h _ (List.getElem_mem hl)
theorem oX {ps:List Rw} (ag:∀ r∈ps,r.Ok) (h3:∀ r∈ps,r.Short 3) (ah:ps.length<=30) (s:Nat):(gR (fQ ps s)).Short 91:=by
 have h:=tX (s:=s) h3 ag ps.length (Nat.le_refl _);exact ⟨Nat.le_trans h.1 (by omega),Nat.le_trans h.2 (by omega)⟩
theorem qK {ps:List Rw} (ag:∀ r∈ps,r.Ok) (hb:kQ ps=false) (h3:∀ r∈ps,r.Short 3) (ah:ps.length<=30) (s:Nat):(gR (gQ ps s)).Short 91 :=
 oX (JW ps) (rV ag hb h3 (by decide)) (by rw [md];exact ah) s
theorem RatAt.boxc {w:World} {v:Value} {r:Rw} (h:RatAt w v r):∃ n l m a1 c1 a2 c2 w',v=.agg #[.bool n,.slice a1 l c1,.slice a2 m c2]/\w'=w.alloc (.cells #[.bool n,.slice a1 l c1,.slice a2 m c2] 29) /\
  (w'.cell? ⟨w.heap.size,0,none⟩=some (.bool n)/\w'.cell? ⟨w.heap.size,1,none⟩=some (.slice a1 l c1)/\w'.cell? ⟨w.heap.size,2,none⟩=some (.slice a2 m c2)) /\
  RatCell w' w.heap.size r/\gO w w'/\RatAt w' (.agg #[.bool n,.slice a1 l c1,.slice a2 m c2]) r/\w'.heap.size=w.heap.size+1:=by
 obtain ⟨n,l,m,a1,c1,a2,c2,w',rfl,rfl,h1,h2,h3,h4⟩:=h.box;have hr:=gS.made w #[.bool n,.slice a1 l c1,.slice a2 m c2] 29;have q0:=hr.cell (i:=0) (by simp);have q1:=hr.cell (i:=1) (by simp);have q2:=hr.cell (i:=2) (by simp);exact ⟨n,l,m,a1,c1,a2,c2,_,rfl,rfl,⟨q0,q1,q2⟩,h1,h2,h3,h4⟩
theorem np (v:Value) (r:Rw) (w:World) (hv:RatAt w v r) (hs:r.Short 34359738368):Calls Tryz.prog 47 #[v] w fun e w'=>(∃ v',e=.returned v'/\RatAt w' v' (gR (1 - gT r)))/\gO w w':=by
 have aB:Hid (∀ W,Calls Tryz.prog 96 #[.int .i64 1] W fun e w'=>(∃ v',e=.returned v'/\RatAt w' v' (gR 1))/\gO W w'):=af fun W=>xF 1 W (by omega) (by omega)
 have aC:Hid (∀ W u1 u2,RatAt W u1 (gR 1)->RatAt W u2 r->Calls Tryz.prog 70 #[u1,u2] W fun e w'=>(∃ v',e=.returned v'/\RatAt w' v' (gR (1 - gT r)))/\gO W w'):=af fun W u1 u2 k1 k2=>by
  have h:=zA u1 u2 _ _ W k1 k2 ⟨Nat.le_trans mj.1 (by omega),Nat.le_trans mj.2 (by omega)⟩ ⟨Nat.le_trans hs.1 (by omega),Nat.le_trans hs.2 (by omega)⟩;rw [gV] at h;exact h
 obtain ⟨n1,l1,m1,a1,c1,b1,d1,w1,rfl,aj,⟨q0,q1,q2⟩,hc1,al,ha1,am⟩:=hv.boxc;obtain ⟨w2,ah⟩:∃ w2,w2=w1.alloc (.cells #[.bool false,.slice none 0 0,.slice none 0 0] 29):=⟨_,rfl⟩;have HC:Hid (RatCell w2 (w.heap.size+1) ⟨false,[],[]⟩):=af (by rw [ah,<-am];exact RatCell.zero w1);have ag:gO w1 w2:=by rw [ah];exact (gO.refl _).alloc _
 have HX:=af (ha1.kept ag);have x0:=ag.cell q0;have x1:=ag.cell q1;have x2:=ag.cell q2;have aD:=af (al.trans ag);have aF:Hid (w2=(w.alloc (.cells #[.bool n1,.slice a1 l1 c1,.slice b1 m1 d1] 29)).alloc (.cells #[.bool false,.slice none 0 0,.slice none 0 0] 29)):=af (by rw [ah,aj]);generalize gR (1 - gT r)=R at *;clear hv aj hc1 al ha1 am ah ag q0 q1 q2 hs;go_enter Tryz.func47,Tryz.ntmps47;go_wp2_with fail;rw [<-aF.out]
 go_region_with (first
  | (go_at_call 96;(with_reducible refine (aB.out _).mono ?_);rintro e w3 ⟨⟨v3,rfl,ap⟩,aq⟩;have hkd:=(gO.refl _).drew.trans aq;have aG:=af ap;have aH:=af (HX.out.kept hkd);have y0:=hkd.cell x0;have y1:=hkd.cell x1;have y2:=hkd.cell x2;have aI:=af (HC.out.kept hkd);have aJ:=af (aD.out.trans hkd);clear ap aq hkd)
  | (go_at_call 70;(with_reducible refine (aC.out _ _ _ aG.out aH.out).mono ?_);rintro e w4 ⟨⟨v4,rfl,ar⟩,ai⟩;have aK:=af (aJ.out.trans ai);obtain ⟨n5,l5,m5,a5,c5,b5,d5,w6,rfl,aw,⟨⟨z0,p0⟩,⟨z1,p1⟩,⟨z2,p2⟩⟩,⟨f0,f1,f2⟩,aL,Y,ay,_,az⟩:=(aI.out.kept ai).save ar;have aA:=af (az.out _ aK.out (by omega));rw [aw] at Y ay aA;clear ar ai aw az))
 all_goals
  go_wp2;refine bodyPost_ret (v:=.agg #[.bool n5,.slice a5 l5 c5,.slice b5 m5 d5]) ?_ rfl ⟨⟨_,rfl,ay.out⟩,aA.out⟩;simp [results,Tryz.results47,go_sem,Y.out.1,Y.out.2.1,Y.out.2.2]
theorem lZ (v:Value) (r:Rw) (w:World) (hv:RatAt w v r) (hs:r.Short 34359738368):Calls Tryz.prog 51 #[v] w fun e w'=>(∃ v',e=.returned v'/\RatAt w' v' (gR (1 - gT r)))/\gO w w':=by
 have aB:Hid (∀ W,Calls Tryz.prog 102 #[.int .i64 1] W fun e w'=>(∃ v',e=.returned v'/\RatAt w' v' (gR 1))/\gO W w'):=af fun W=>pg 1 W (by omega)
 have aC:Hid (∀ W u1 u2,RatAt W u1 (gR 1)->RatAt W u2 r->Calls Tryz.prog 101 #[u1,u2] W fun e w'=>(∃ v',e=.returned v'/\RatAt w' v' (gR (1 - gT r)))/\gO W w'):=af fun W u1 u2 k1 k2=>by
  have h:=qY u1 u2 _ _ W k1 k2 ⟨Nat.le_trans mj.1 (by omega),Nat.le_trans mj.2 (by omega)⟩ ⟨Nat.le_trans hs.1 (by omega),Nat.le_trans hs.2 (by omega)⟩;rw [gV] at h;exact h
 obtain ⟨n1,l1,m1,a1,c1,b1,d1,w1,rfl,aj,⟨q0,q1,q2⟩,hc1,al,ha1,am⟩:=hv.boxc;obtain ⟨w2,ah⟩:∃ w2,w2=w1.alloc (.cells #[.bool false,.slice none 0 0,.slice none 0 0] 29):=⟨_,rfl⟩;have HC:Hid (RatCell w2 (w.heap.size+1) ⟨false,[],[]⟩):=af (by rw [ah,<-am];exact RatCell.zero w1);have ag:gO w1 w2:=by rw [ah];exact (gO.refl _).alloc _
 have HX:=af (ha1.kept ag);have x0:=ag.cell q0;have x1:=ag.cell q1;have x2:=ag.cell q2;have aD:=af (al.trans ag);have aF:Hid (w2=(w.alloc (.cells #[.bool n1,.slice a1 l1 c1,.slice b1 m1 d1] 29)).alloc (.cells #[.bool false,.slice none 0 0,.slice none 0 0] 29)):=af (by rw [ah,aj]);generalize gR (1 - gT r)=R at *;clear hv aj hc1 al ha1 am ah ag q0 q1 q2 hs;go_enter Tryz.func51,Tryz.ntmps51;go_wp2_with fail;rw [<-aF.out]
 go_region_with (first
  | (go_at_call 102;(with_reducible refine (aB.out _).mono ?_);rintro e w3 ⟨⟨v3,rfl,ap⟩,aq⟩;have hkd:=(gO.refl _).drew.trans aq;have aG:=af ap;have aH:=af (HX.out.kept hkd);have y0:=hkd.cell x0;have y1:=hkd.cell x1;have y2:=hkd.cell x2;have aI:=af (HC.out.kept hkd);have aJ:=af (aD.out.trans hkd);clear ap aq hkd)
  | (go_at_call 101;(with_reducible refine (aC.out _ _ _ aG.out aH.out).mono ?_);rintro e w4 ⟨⟨v4,rfl,ar⟩,ai⟩;have aK:=af (aJ.out.trans ai);obtain ⟨n5,l5,m5,a5,c5,b5,d5,w6,rfl,aw,⟨⟨z0,p0⟩,⟨z1,p1⟩,⟨z2,p2⟩⟩,⟨f0,f1,f2⟩,aL,Y,ay,_,az⟩:=(aI.out.kept ai).save ar;have aA:=af (az.out _ aK.out (by omega));rw [aw] at Y ay aA;clear ar ai aw az))
 all_goals
  go_wp2;refine bodyPost_ret (v:=.agg #[.bool n5,.slice a5 l5 c5,.slice b5 m5 d5]) ?_ rfl ⟨⟨_,rfl,ay.out⟩,aA.out⟩;simp [results,Tryz.results51,go_sem,Y.out.1,Y.out.2.1,Y.out.2.2]
theorem oE (s:Nat) (v:Value) (ps:List Rw) (w:World) (hs:s<16777216) (hv:RatsAt w v ps) (az:∀ r∈ps,r.Short 3) (aA:ps.length<=30) :
  Calls Tryz.prog 49 #[.int .i64 s,v] w fun e w'=>(∃ v',e=.returned v'/\RatAt w' v' (gR (fQ ps s)))/\gO w w':=by
 have bd:Hid (∀ W,Calls Tryz.prog 96 #[.int .i64 1] W fun e w'=>(∃ v',e=.returned v'/\RatAt w' v' (gR (kE s ps 0)))/\gO W w'):=af fun W=>xF 1 W (by omega) (by omega)
 have HH:=af (fun (i:Nat) W=>Fo s i hs W);have bf:=af (fun n hn=>tX (s:=s) az hv.ok n hn);have HV:=af hv;have bh:=af az;obtain ⟨a,c,rfl⟩:=hv.shape;obtain ⟨n,hn⟩:∃ n,n=ps.length:=⟨_,rfl⟩;rw [<-hn] at HV aA;have HN:=af hn;obtain ⟨R,hR⟩:∃ R,R=gR (fQ ps s):=⟨_,rfl⟩;rw [<-hR,<-hn];have bi:Hid (R=gR (kE s ps n)):=af (by rw [hR,hn];rfl);clear hR;obtain ⟨w2,ag⟩:∃ w2,w2=w.alloc (.cells #[.bool false,.slice none 0 0,.slice none 0 0] 29):=⟨_,rfl⟩;have HZ:Hid (RatCell w2 w.heap.size ⟨false,[],[]⟩):=af (by rw [ag];exact RatCell.zero w);have bj:Hid (gO w w2):=af (by rw [ag];exact (gO.refl w).alloc _);have bk:=af ag;clear hn hv az hs ag;go_enter Tryz.func49,Tryz.ntmps49;go_wp2_with fail;rw [<-bk.out];refine (bd.out _).mono ?_;rintro e w3 ⟨⟨v3,rfl,aL⟩,aB⟩;have bl:=af (HZ.out.kept aB);have aM:=af (bj.out.trans aB);obtain ⟨n3,l3,m3,a3,c3,b3,d3,w4,rfl,aN,aO,aP,_,_⟩:=aL.box;have bo:=af aN;have HC:=af aO;have bp:=af aP;clear aL aB aN aO aP;go_wp2_with fail;rw [<-bo.out];go_loopg [11] n (fun kx s10 wr=>∃ k:Nat,k<=n/\s10=.int .i64 k/\n - k<=kx/\Hid (RatCell wr w3.heap.size (gR (kE s ps k)))/\Hid (gO w3 wr))
 case atStart=>exact ⟨0,Nat.zero_le _,rfl,by omega,HC,bp⟩
 case round =>
  obtain ⟨k,hk,rfl,bE,HX,aj⟩:=hrel;by_cases bF:k<n
  ·have bq:(k:Int)<(n:Int):=by omega
   have aC:k<ps.length:=by have:=HN.out;omega
   obtain ⟨b,o,u1,u2,rfl,aQ,aD,ag⟩:=HV.out.get k aC;obtain ⟨a6,c6,rfl⟩:=aD.shape;obtain ⟨a7,c7,rfl⟩:=ag.shape;have aF:=af (aM.out.trans aj.out);have ah:=jN aQ aF.out;have hq:RatAt wr (.agg #[.bool (ps.getD k default).neg,.slice a6 (ps.getD k default).num.length c6,.slice a7 (ps.getD k default).den.length c7]) (ps.getD k default):=⟨_,_,rfl,aD.kept aF.out,ag.kept aF.out⟩
   have aG:(ps.getD k default).Short 3:=by
    have e:ps.getD k default=ps[k]:=by simp [List.getD_eq_getElem?_getD,aC]
    rw [e];exact bh.out _ (List.getElem_mem _)
   have aR:=bf.out k (by have:=HN.out;omega);obtain ⟨x,aH⟩:∃ x,x=ps.getD k default:=⟨_,rfl⟩;have br:=af aH;rw [<-aH] at ah hq aG;have aS:=af aG;have aT:=af aR;obtain ⟨w5,ar⟩:∃ w5,w5=wr.alloc (.cells #[.bool x.neg,.slice a6 x.num.length c6,.slice a7 x.den.length c7] 29):=⟨_,rfl⟩;have al:=gS.made wr #[.bool x.neg,.slice a6 x.num.length c6,.slice a7 x.den.length c7] 29;rw [<-ar] at al;have aI:gO wr w5:=by rw [ar];exact (gO.refl _).alloc _
   have q0:=al.cell (i:=0) (by simp);have q1:=al.cell (i:=1) (by simp);have q2:=al.cell (i:=2) (by simp);simp only [List.getElem_cons_succ,List.getElem_cons_zero] at q0 q1 q2;have bt:=af (hq.kept aI);generalize x.neg=y0 at *;generalize x.num.length=y1 at *;generalize x.den.length=y2 at *;have aU:Hid (wr.rangeAt b (o+k*3) [.bool y0,.slice a6 y1 c6,.slice a7 y2 c7]):=af ah;have aw:=af aI;have aV:=af ar;clear aQ ah aD ag hq aG aR aH ar al aI aC;cases hb:s.testBit k with
   | false =>
    have aJ:Hid (∀ W,Calls Tryz.prog 98 #[.int .i64 s,.int .i64 k] W fun e w'=>e=.returned (.bool false)/\w'=W):=af fun W=>by have h:=HH.out k W;rw [hb] at h;exact h
    have bw:Hid (kE s ps (k+1)=kE s ps k):=af (by rw [mv,if_neg (by rw [hb];simp)]);clear hb;go_wp2_with (with_reducible refine wpList_load_mid rfl 29 _ rfl b (o+k*3) rfl _ _ aU.out Tryz.underlying29 rfl (by kernel_rfl) ?_);rw [<-aV.out];refine (aJ.out _).mono ?_;rintro e w6 ⟨rfl,am⟩;rw [am];clear am;go_wp2_with fail;go_roundg (n - (k+1))
    case measure=>omega
    case rel=>exact ⟨k+1,by omega,by go_num,Nat.le_refl _,af (by rw [bw.out];exact HX.out.kept aw.out),af (aj.out.trans aw.out)⟩
   | true =>
    have aJ:Hid (∀ W,Calls Tryz.prog 98 #[.int .i64 s,.int .i64 k] W fun e w'=>e=.returned (.bool true)/\w'=W):=af fun W=>by have h:=HH.out k W;rw [hb] at h;exact h
    have bz:Hid (∀ W u1 u2,RatAt W u1 (gR (kE s ps k))->RatAt W u2 x->Calls Tryz.prog 97 #[u1,u2] W fun e w'=>(∃ v',e=.returned v'/\RatAt w' v' (gR (kE s ps (k+1))))/\gO W w'):=af fun W u1 u2 k1 k2=>by
     rw [mv,if_pos hb,<-br.out];have h:=zw _ _ _ _ W k1 k2 ⟨Nat.le_trans aT.out.1 (by omega),Nat.le_trans aT.out.2 (by omega)⟩ ⟨Nat.le_trans aS.out.1 (by omega),Nat.le_trans aS.out.2 (by omega)⟩;rw [gV] at h;exact h
    clear hb;obtain ⟨p1,p2,p3,e1,e2,e3,e4,x0,x1,x2,aW,aK⟩:=(HX.out.kept aw.out).read;go_wp2_with (with_reducible refine wpList_load_mid rfl 29 _ rfl b (o+k*3) rfl _ _ aU.out Tryz.underlying29 rfl (by kernel_rfl) ?_);rw [<-aV.out];refine (aJ.out _).mono ?_;rintro e w6 ⟨rfl,am⟩;rw [am];clear am;go_wp2_with fail;refine (bz.out _ _ _ aK.out bt.out).mono ?_;rintro e w7 ⟨⟨v7,rfl,aX⟩,aY⟩;have ai:=aw.out.trans aY;obtain ⟨n8,l8,m8,a8,c8,b8,d8,w8,rfl,ap,⟨⟨z0,j0⟩,⟨z1,j1⟩,⟨z2,j2⟩⟩,⟨f0,f1,f2⟩,bA,_,_,bB,aq⟩:=(HX.out.kept ai).save aX;have ay:=af (aq.out _ (aj.out.trans ai) (Nat.le_refl _));have bC:=af ap;clear aX aY ai ap aq x0 x1 x2 aW q0 q1 q2;go_wp2_with fail;rw [<-bC.out];go_roundg (n - (k+1))
    case measure=>omega
    case rel=>exact ⟨k+1,by omega,by go_num,Nat.le_refl _,bB,ay⟩
  ·have aZ:k=n:=by omega
   have bq:¬ (k:Int)<(n:Int):=by omega
   have bD:Hid (RatCell wr w3.heap.size R):=af (by rw [bi.out,<-aZ];exact HX.out);obtain ⟨p1,p2,p3,e1,e2,e3,e4,x0,x1,x2,aW,aK⟩:=bD.out.read;obtain ⟨n8,l8,m8,a8,c8,b8,d8,w8,he,ap,⟨⟨z0,j0⟩,⟨z1,j1⟩,⟨z2,j2⟩⟩,⟨f0,f1,f2⟩,bA,Y,a_,_,aq⟩:=(bl.out.kept aj.out).save aK.out;have ay:=af (aq.out _ (aM.out.trans aj.out) (Nat.le_refl _));simp only [Value.agg.injEq,Array.mk.injEq,List.cons.injEq,Value.bool.injEq,Value.slice.injEq,and_true] at he;obtain ⟨rfl,⟨rfl,rfl,rfl⟩,rfl,rfl,rfl⟩:=he;rw [ap] at Y a_ ay;clear ap aq aZ;go_wp2;refine bodyPost_ret (v:=.agg #[.bool p1,.slice e1 p2 e2,.slice e3 p3 e4]) ?_ rfl ⟨⟨_,rfl,a_.out⟩,ay.out⟩;simp [results,Tryz.results49,go_sem,Y.out.1,Y.out.2.1,Y.out.2.2]
end Go.Proofs.YtofibjflkebkpaaGreatDoor
