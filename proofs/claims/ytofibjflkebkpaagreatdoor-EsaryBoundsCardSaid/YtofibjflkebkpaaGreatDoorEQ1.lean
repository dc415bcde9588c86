import Derived.Test.YtofibjflkebkpaaGreatDoorRows
import Derived.WalkKit
import Derived.WalkSpells
import Derived.WalkLawsBesides
import Derived.Deep.QuietTactic
import Derived.BigQuiet
import Derived.Lib.Hide
import Derived.Shelf.Abstract
import Derived.Deep.RegionWith
import Derived.Laws.AppendOwnNone
import Derived.Lib.AppendZerosOnto
import Derived.Lib.SliceRun
import Derived.Lib.SlicesCompact
import Derived.Shelf.SlSortCmp.NoneTotal
import Derived.Test.YtofibjflkebkpaaGreatDoorShelfC
import Derived.Maps.OwnOps
import Derived.Maps.OwnSet
import Derived.Maps.Views
import Derived.Deep.MidRow
set_option maxRecDepth 100000
set_option maxHeartbeats 16000000
namespace Go.Proofs.YtofibjflkebkpaaGreatDoor
open Go.RowKit
theorem af {p:Prop} (h:p):Hid p:=Lib.hid h
abbrev gO (w w':World):Prop:=Below w.heap.size w w'
theorem gO.refl (w:World):gO w w:=Below.refl _ _
theorem gO.trans {a b c:World} (h:gO a b) (k:gO b c):gO a c:=Below.trans h (Below.mono k h.size)
theorem gO.drew {a w:World} (h:gO a w):gO a w.drew:=Below.drew h
theorem gO.alloc {a w:World} (h:gO a w) (o:Obj):gO a (w.alloc o):=Below.alloc h h.size o
theorem gO.cell {w w':World} (h:gO w w') {p:Addr} {v:Value} (hc:w.cell? p=some v):w'.cell? p=some v :=
 (Below.cell h (World.block_lt_of_cell? w _ hc)).trans hc
theorem gO.drewN {a w:World} (h:gO a w) (n:Nat):gO a (w.drewN n):=⟨h.os,h.tape,h.output,h.size,h.block⟩
theorem gO.app {a b c:World} (h:gO a b) (k:Below a.heap.size b c):gO a c:=Below.trans h k
def gU (w:World) (v:Value) (xs:List Int):Prop :=
 ∃ (a:Option Addr) (c:Nat),v=.slice a xs.length c/\(xs.length<=c/\(a=none->c=0))/\xs.length<=140737488355328 /\
  ∀ i (h:i<xs.length),∃ b o,a=some ⟨b,o,none⟩/\w.cell? ⟨b,o+i,none⟩=some (.int .i64 xs[i])
theorem gU.kept {w w':World} {v:Value} {xs:List Int} (h:gU w v xs) (hb:gO w w'):gU w' v xs:=by
 obtain ⟨a,c,h1,h0,h2,h3⟩:=h;refine ⟨a,c,h1,h0,h2,fun i hi=>?_⟩;obtain ⟨b,o,h4,h5⟩:=h3 i hi;exact ⟨b,o,h4,hb.cell h5⟩
theorem gU.shape {w:World} {v:Value} {xs:List Int} (h:gU w v xs):∃ a n c,v=.slice a n c:=by
 obtain ⟨a,c,h1,_⟩:=h;exact ⟨a,_,c,h1⟩
theorem gU.nil (w:World):gU w (.slice none 0 0) []:=⟨none,0,rfl,⟨by simp,fun _=>rfl⟩,by simp,fun i h=>by simp at h⟩
def oA {α:Type} (R:World->Value->α->Prop) (w:World) (v:Value) (xs:List α):Prop :=
 ∃ (a:Option Addr) (c:Nat),v=.slice a xs.length c/\(xs.length<=c/\(a=none->c=0))/\xs.length<=140737488355328 /\
  ∀ i (h:i<xs.length),∃ b o u,a=some ⟨b,o,none⟩/\w.cell? ⟨b,o+i,none⟩=some u/\R w u xs[i]
theorem oA.kept {α:Type} {R:World->Value->α->Prop} (hR:∀ w w' u x,R w u x->gO w w'->R w' u x)
  {w w':World} {v:Value} {xs:List α} (h:oA R w v xs) (hb:gO w w'):oA R w' v xs:=by
 obtain ⟨a,c,h1,h0,h2,h3⟩:=h;refine ⟨a,c,h1,h0,h2,fun i hi=>?_⟩;obtain ⟨b,o,u,h4,h5,h6⟩:=h3 i hi;exact ⟨b,o,u,h4,hb.cell h5,hR _ _ _ _ h6 hb⟩
def iV (c:Nat):Value:=if c=0 then .nilIface else .iface 60 (.int .i64 c)
theorem kj:iV 0=.nilIface:=rfl
theorem iF {c:Nat} (h:c≠0):iV c=.iface 60 (.int .i64 c):=by simp [iV,h]
def OwnInts (w:World) (B:Nat) (v:Value) (xs:List Int):Prop :=
 w.ownsRow B 3 1 v xs.length (xs.map (Value.int .i64))/\xs.length<=140737488355328
theorem OwnInts.ints {w:World} {B:Nat} {v:Value} {xs:List Int} (h:OwnInts w B v xs):gU w v xs:=by
 obtain ⟨⟨h1,h2⟩,h3⟩:=h;rcases h2 with ⟨rfl,h4⟩ | ⟨g,cap,cur,rfl,h5,h6,h7,h8,h9,ag⟩
 ·have:xs=[]:=List.eq_nil_of_length_eq_zero h4
  subst this;exact gU.nil w
 ·refine ⟨_,cap,rfl,⟨h7,fun h=>by cases h⟩,h3,fun i hi=>⟨g,0,rfl,?_⟩⟩;have e1:(cur.toList.take (xs.length*1))[i]?=(xs.map (Value.int .i64))[i]?:=by rw [ag]
  rw [List.getElem?_take_of_lt (by omega)] at e1;simp only [World.cell?,h6,Nat.zero_add];simpa [hi] using e1
theorem lT {w w':World} {B:Nat} {e:TypeId} {size:Nat} {v:Value} {n:Nat} {xs:List Value} (h:w.ownsRow B e size v n xs) (hb:gO w w'):w'.ownsRow B e size v n xs:=by
 obtain ⟨h1,h2⟩:=h;refine ⟨h1,h2.imp id ?_⟩;rintro ⟨g,cap,cur,h3,h4,h5,h6⟩
 have hg:g<w.heap.size:=by
  rcases Nat.lt_or_ge g w.heap.size with h | h
  ·exact h
  ·simp [Array.getElem?_eq_none h] at h5
 exact ⟨g,cap,cur,h3,h4,(hb.block g hg).trans h5,h6⟩
theorem OwnInts.kept {w w':World} {B:Nat} {v:Value} {xs:List Int} (h:OwnInts w B v xs) (hb:gO w w'):OwnInts w' B v xs:=⟨lT h.1 hb,h.2⟩
theorem OwnInts.nil (w:World) (B:Nat):OwnInts w B (.slice none 0 0) []:=⟨World.ownsRow_nil _ _ _ _,by simp⟩
theorem nz {w:World} {B B':Nat} {e:TypeId} {size:Nat} {v:Value} {n:Nat} {xs:List Value} (h:w.ownsRow B e size v n xs) (hb:B'<=B):w.ownsRow B' e size v n xs:=by
 obtain ⟨h1,h2⟩:=h;refine ⟨h1,h2.imp id ?_⟩;rintro ⟨g,cap,cur,h3,h4,h5⟩;exact ⟨g,cap,cur,h3,by omega,h5⟩
theorem OwnInts.mono {w:World} {B B':Nat} {v:Value} {xs:List Int} (h:OwnInts w B v xs) (hb:B'<=B):OwnInts w B' v xs:=⟨nz h.1 hb,h.2⟩
theorem iD {B:Nat} {w w':World} {v:Value} {e:TypeId} {size n:Nat} {xs:List Value} (hg:w.grownBy w' v.ownBlock) (ho:w.ownsRow B e size v n xs) (hB:B<=w.heap.size):Below B w w' :=
 Below.grown (Below.refl _ _) hg hB fun k hk=>(ho.lt k hk).1
section
open Go.RowKit
theorem lS:(Tryz.prog.info? 3).map (fun i=>(i.zero,i.size,i.bytes))=some (some (.int .i64 0),1,8):=by kernel_rfl
theorem rp:(Tryz.prog.info? 22).map (fun i=>(i.zero,i.size,i.bytes))=some (some (.slice none 0 0),1,24):=by kernel_rfl
variable {ops:Array Oper} {rest:List Oper} {o:Oper} {a:Act} {Q:Exit->Act->World->Prop} {w:World}
theorem sT (t e:TypeId) (z:Value) (bytes:Nat) (hi:(Tryz.prog.info? e).map (fun i=>(i.zero,i.size,i.bytes))=some (some z,1,bytes)) (ht:Tryz.prog.underlying t=some (.slice e)) (hz:z.cells.size=1) (ah:o.guard=none) (s x:Operand)
  (ho:o.op=.call { callee:=.builtin .append,args:=#[s,x],argTypes:=#[t,t] }) (B:Nat) (v:Value) (xs:List Value) (hs:a.eval s=v) (ag:w.ownsRow B e 1 v xs.length xs)
  (ad:Addr) (y:Value) (hx:a.eval x=.slice (some ad) 1 1) (hc:w.cell? ad=some y) (h1:y.oneCell'=true) (hl:(xs.length+1)*bytes<=140737488355328) (ai:xs.length+1<=maxLen) (hB:B<=w.heap.size)
  (h:∀ v' w',w'.ownsRow B e 1 v' (xs++[y]).length (xs++[y])->w.grownBy w' v.ownBlock->Below B w w'->wpList Tryz.prog ops Q rest (a.put o.dst v') w'):wpList Tryz.prog ops Q (o :: rest) a w:=by
 obtain ⟨i0,aj,al,am,ap⟩:=info_parts hi;refine wpList_append_own _ ah s x t ho B e i0 z 1 bytes ht aj al am ap hz (by decide) v xs.length xs hs ag ad 1 1 [y] hx rfl ?_ ?_ ai hl hB ?_
 ·intro j u hj
  match j,hj with
  | 0,hj=>simp at hj;subst hj;simpa [Addr.add] using hc
 ·intro u hu;simp at hu;subst hu;exact h1
 ·intro v' w' h2 h3 _;refine h v' w' ?_ h3 (iD h3 ag hB);simpa using h2
theorem kp (ah:o.guard=none) (s x:Operand)
  (ho:o.op=.call { callee:=.builtin .append,args:=#[s,x],argTypes:=#[22,22] }) (B:Nat) (v:Value) (xs:List Int) (hs:a.eval s=v) (ag:OwnInts w B v xs)
  (ad:Addr) (y:Int) (hx:a.eval x=.slice (some ad) 1 1) (hc:w.cell? ad=some (.int .i64 y)) (hl:xs.length<17592186044416) (hB:B<=w.heap.size)
  (h:∀ v' w',OwnInts w' B v' (xs++[y])->w.grownBy w' v.ownBlock->Below B w w'->wpList Tryz.prog ops Q rest (a.put o.dst v') w'):wpList Tryz.prog ops Q (o :: rest) a w:=by
 refine sT 22 3 _ 8 lS Tryz.underlying22 rfl ah s x ho B v (xs.map (.int .i64)) hs (by simpa using ag.1) ad _ hx hc rfl (by simp;omega) (by simp [maxLen];omega) hB ?_;intro v' w' h2 h3 h4;refine h v' w' ⟨?_,by simp;omega⟩ h3 h4;simpa using h2
theorem lR (ai:o.guard=none) (s x:Operand)
  (ho:o.op=.call { callee:=.builtin .append,args:=#[s,x],argTypes:=#[22,22] }) (B:Nat) (v:Value) (xs:List Int) (hs:a.eval s=v) (ag:OwnInts w B v xs)
  (u:Value) (ys:List Int) (hx:a.eval x=u) (hu:gU w u ys) (hl:xs.length+ys.length<=17592186044416) (hB:B<=w.heap.size)
  (h:∀ v' w',OwnInts w' B v' (xs++ys)->(∀ k,k<w.heap.size->some k≠v.ownBlock->w'.heap[k]?=w.heap[k]?)->Below B w w'->wpList Tryz.prog ops Q rest (a.put o.dst v') w'):wpList Tryz.prog ops Q (o :: rest) a w:=by
 obtain ⟨i0,aj,al,am,ap⟩:=info_parts lS;obtain ⟨ad,c,rfl,⟨hc,aq⟩,aw,ah⟩:=hu;cases ad with
 | none =>
  have hy:ys=[]:=by
   cases ys with
   | nil=>rfl
   | cons y ys=>obtain ⟨b,o,h,_⟩:=ah 0 (by simp);cases h
  subst hy;rw [aq rfl] at hx;refine wpList_append_own_none ai s x 22 ho B 3 i0 1 Tryz.underlying22 aj v xs.length _ hs ag.1 hx ?_;exact h v w (by simpa using ag) (fun _ _ _=>rfl) (Below.refl _ _)
 | some ad =>
  refine wpList_append_own _ ai s x 22 ho B 3 i0 _ 1 8 Tryz.underlying22 aj al am ap rfl (by decide) v xs.length _ hs ag.1 ad ys.length c (ys.map (.int .i64)) hx (by simp) ?_ ?_ (by simp [maxLen];omega) (by omega) hB ?_
  ·intro j u hj
   have hj':j<ys.length:=by
    rcases Nat.lt_or_ge j ys.length with h | h
    ·exact h
    ·rw [List.getElem?_eq_none (by simpa using h)] at hj;cases hj
   obtain ⟨b,o,h1,h2⟩:=ah j hj';cases h1;simp [hj'] at hj;subst hj;rcases Nat.eq_zero_or_pos j with h0 | h0
   ·subst h0;simpa [Addr.add] using h2
   ·simpa [Addr.add,Nat.ne_of_gt h0] using h2
  ·intro u hu;obtain ⟨y,_,rfl⟩:=List.mem_map.1 hu;rfl
  ·intro v' w' h2 h3 _;refine h v' w' ⟨by simpa using h2,by simp;omega⟩ (fun k hk ar=>h3.block k hk ar) (iD h3 ag.1 hB)
end
theorem rT (s:Int) (w:World):Calls Tryz.prog 217 #[.int .i64 s] w fun e w'=>e=.returned (.bool (decide (0<=s/\s<=16777215)))/\w=w':=by
 by_cases h:0<=s
 ·by_cases h2:s<=16777215
  all_goals
   go_enter Tryz.func217,Tryz.ntmps217;go_wp2;go_ret;exact ⟨by simp [h,h2],rfl⟩
 ·go_enter Tryz.func217,Tryz.ntmps217;go_wp2;go_ret;exact ⟨by congr 2;simp;omega,rfl⟩
theorem Cm (s:Int) (w:World):Calls Tryz.prog 135 #[.int .i64 s] w fun e w'=>e=.returned (.int .i64 (bits .and .i64 s 16777215))/\w=w':=by
 go_enter Tryz.func135,Tryz.ntmps135;go_wp2;go_ret;exact ⟨rfl,rfl⟩
def BC (a b:Int):Bool:=bits .andNot .i64 (bits .and .i64 a 16777215) b == 0
theorem BD (a b:Int) (w:World):Calls Tryz.prog 221 #[.int .i64 a,.int .i64 b] w fun e w'=>e=.returned (.bool (BC a b))/\w=w':=by
 go_enter Tryz.func221,Tryz.ntmps221;go_wp2_with (go_at_call 135;refine (Cm _ _).mono ?_;rintro e w' ⟨rfl,rfl⟩);go_ret;exact ⟨rfl,rfl⟩
def wB (g:Nat) (lb:Array Value) (p:Int->Bool) (w:World):Prop :=
 ∀ (W:World) (x:Int),gO w W->Calls Tryz.prog g (#[.int .i64 x]++lb) W fun e W'=>e=.returned (.bool (p x))/\gO W W'
theorem wT (g:Nat) (lb:Array Value) (eg:∀ args w,(callFunc g args).run Tryz.prog w=.ok (.enter g args) w) (p:Int->Bool) (v:Value) (xs:List Int) (w:World)
  (hp:wB g lb p w) (hv:gU w v xs) :
  Calls Tryz.prog 257 #[v,.func (.func g) #[] lb] w fun e w'=>(∃ n:Int,e=.returned (.int .i64 n)/\(decide (0<=n)=xs.any p))/\gO w w':=by
 obtain ⟨a,c,rfl,⟨hc,_⟩,hl,hx⟩:=hv;obtain ⟨n,hn⟩:∃ n,n=xs.length:=⟨_,rfl⟩;have hbig:n<=140737488355328:=by omega
 rw [<-hn];have HX:=af hx;have HN:=af hn;have HP:=af hp;clear hx hn hp hl hc;go_enter Tryz.func257,Tryz.ntmps257;go_wp2;go_loopw [5,8] (fun _ i wr=>∃ k:Nat,k<=n/\i=.int .i64 k/\Hid (∀ x∈xs.take k,p x=false)/\gO w wr) (fun _ i _=>n - (intOf i).toNat)
 case atStart=>exact ⟨0,Nat.zero_le _,rfl,af (by simp),gO.refl _⟩
 case round =>
  obtain ⟨k,hk,rfl,HF,hK⟩:=hrel;by_cases aq:k<n
  ·have am:k<xs.length:=by have:=HN.out;omega
   obtain ⟨b,o,rfl,ah⟩:=HX.out k am;have ai:=hK.cell ah;obtain ⟨x,aj⟩:∃ x,x=xs[k]:=⟨_,rfl⟩;rw [<-aj] at ah ai;have ap:=af aj;clear aj ah;cases hq:p x with
   | true =>
    have ag:=fun W h=>HP.out W x h
    rw [hq] at ag;have HC:=af ag;clear ag;go_wp2_with (go_at_fn g;refine (HC.out _ hK).mono ?_;rintro e w' ⟨rfl,al⟩);go_ret;refine ⟨⟨k,rfl,?_⟩,hK.trans al⟩
    have:xs.any p=true:=List.any_eq_true.2 ⟨x,by rw [ap.out];exact List.getElem_mem _,hq⟩
    rw [this];simp
   | false =>
    have ag:=fun W h=>HP.out W x h
    rw [hq] at ag;have HC:=af ag;clear ag;go_wp2_with (go_at_fn g;refine (HC.out _ hK).mono ?_;rintro e w' ⟨rfl,al⟩);go_roundw
    case rel =>
     refine ⟨k+1,by omega,by go_num,af ?_,hK.trans al⟩;intro y hy;rw [List.take_succ_eq_append_getElem am] at hy;rcases List.mem_append.1 hy with hy | hy
     ·exact HF.out y hy
     ·simp at hy;rw [hy,<-ap.out];exact hq
    case measure=>simp [intOf];omega
  ·go_wp2;go_ret;refine ⟨⟨-1,rfl,?_⟩,hK⟩;have hh:=HF.out;rw [List.take_of_length_le (by have:=HN.out;omega)] at hh
   have:xs.any p=false:=by rw [List.any_eq_false];intro y hy;simp [hh y hy]
   rw [this];rfl
theorem Cp (g:Nat) (lb:Array Value) (eg:∀ args w,(callFunc g args).run Tryz.prog w=.ok (.enter g args) w) (p:Int->Bool) (v:Value) (xs:List Int) (w:World)
  (hp:wB g lb p w) (hv:gU w v xs) :
  Calls Tryz.prog 219 #[v,.func (.func g) #[] lb] w fun e w'=>e=.returned (.bool (xs.any p))/\gO w w':=by
 have h:=wT g lb eg p v xs w hp hv;have H:=af h;clear h hp hv eg;obtain ⟨r,hr⟩:∃ r,r=xs.any p:=⟨_,rfl⟩;rw [<-hr] at H⊢;clear hr;go_enter Tryz.func219,Tryz.ntmps219;go_wp2_with (go_at_call 257;refine H.out.mono ?_;rintro e w' ⟨⟨n,rfl,hn⟩,hK⟩;have HN:=af hn;clear hn);go_ret;exact ⟨by rw [<-HN.out];rfl,hK⟩
theorem r_ (s:Int) (B:Nat) (w:World) (hc:w.cell? ⟨B,0,none⟩=some (.int .i64 s)):wB 220 #[.pointer (some ⟨B,0,none⟩)] (fun t=>BC t s) w:=by
 intro W x hK;have hc':=hK.cell hc;clear hc;go_enter Tryz.func220,Tryz.ntmps220;go_wp2_with (go_at_call 221;refine (BD _ _ _).mono ?_;rintro e w' ⟨rfl,rfl⟩);go_ret;exact ⟨rfl,gO.refl _⟩
def lA (out:List Int) (s:Int):List Int:=if out.any (fun t=>BC t s) then out else out++[s]
def tL (l:List Int):List Int:=l.foldl lA []
theorem yA (l:List Int):∀ out,(l.foldl lA out).length<=out.length+l.length:=by
 induction l with
 | nil=>intro out;simp
 | cons s l ih =>
  intro out;simp only [List.foldl_cons,List.length_cons];refine Nat.le_trans (ih _) ?_;unfold lA;split <;> simp <;> omega
theorem AM (l:List Int) (k:Nat) (h:k<l.length):tL (l.take (k+1))=lA (tL (l.take k)) l[k]:=by
 unfold tL;rw [List.take_succ_eq_append_getElem h,List.foldl_append];rfl
theorem yN (v:Value) (w:World) (xs:List Int) (hx:xs.length<=8796093022208)
  (hs:Calls Tryz.prog 154 #[v] w fun e w'=>∃ v',e=.returned v'/\gU w' v' xs/\gO w w') :
  Calls Tryz.prog 155 #[v] w fun e w'=>∃ v',e=.returned v'/\OwnInts w' w.heap.size v' (tL xs)/\gO w w':=by
 have HS:=af hs;clear hs;obtain ⟨n,hn⟩:∃ n,n=xs.length:=⟨_,rfl⟩;rw [<-hn] at hx;have HN:=af hn;clear hn;go_enter Tryz.func155,Tryz.ntmps155;go_wp2_with (go_at_call 154;refine HS.out.mono ?_;rintro e w1 ⟨v',rfl,hI,aq⟩;obtain ⟨a,c,rfl,⟨hc,_⟩,hl,ag⟩:=hI;have HX:=af ag;clear ag hc hl;rw [<-HN.out]);go_loopw [3,9] (fun v i wr=>∃ k:Nat,k<=n/\i=.int .i64 k/\OwnInts wr w1.heap.size v (tL (xs.take k))/\gO w1 wr) (fun _ i _=>n - (intOf i).toNat)
 case atStart=>exact ⟨0,Nat.zero_le _,rfl,OwnInts.nil _ _,gO.refl _⟩
 case round =>
  obtain ⟨k,hk,rfl,ai,hK⟩:=hrel;have hB:=hK.size;by_cases aA:k<n
  ·have ar:k<xs.length:=by have:=HN.out;omega
   obtain ⟨b,o,rfl,ap⟩:=HX.out k ar;have ag:=hK.cell ap;obtain ⟨s,hs⟩:∃ x,x=xs[k]:=⟨_,rfl⟩;rw [<-hs] at ag ap;have ah:=AM xs k ar;rw [<-hs] at ah;have al:=yA (xs.take k) [];obtain ⟨m,hm⟩:∃ m,m=tL (xs.take k):=⟨_,rfl⟩;have aB:m.length<=k:=by rw [hm];refine Nat.le_trans al ?_;simp;omega
   rw [<-hm] at ai ah;have aw:=af ah;clear ah al hs hm ap;have HO:=af ai;clear ai;cases hq:m.any (fun t=>BC t s) with
   | true =>
    have HQ:=af hq;clear hq;go_wp2_with (go_at_call 219;refine (Cp _ _ (enters_of Tryz.func220 (by kernel_rfl) rfl) _ _ m _ (r_ s _ _ (by simp)) ((HO.out.kept ((gO.refl _).alloc _)).ints)).mono ?_;rintro e w2 ⟨rfl,aj⟩;rw [HQ.out]);go_roundw
    case rel=>exact ⟨k+1,by omega,by go_num,by rw [aw.out,lA,HQ.out];exact HO.out.kept (((gO.refl _).alloc _).trans aj),hK.trans (((gO.refl _).alloc _).trans aj)⟩
    case measure=>simp [intOf];omega
   | false =>
    have HQ:=af hq;clear hq
    go_wp2_with (first
     | (go_at_call 219;refine (Cp _ _ (enters_of Tryz.func220 (by kernel_rfl) rfl) _ _ m _ (r_ s _ _ (by simp)) ((HO.out.kept ((gO.refl _).alloc _)).ints)).mono ?_;rintro e w2 ⟨rfl,aj⟩;rw [HQ.out];have ay:=aj.cell (p:=⟨wr.heap.size,0,none⟩) (v:=.int .i64 s) (by simp);have hz:=aj.size)
     | (at_builtin;refine kp rfl _ _ rfl w1.heap.size _ m rfl (HO.out.kept ((((gO.refl _).alloc _).trans aj).alloc _)) _ s rfl (by simp) (by omega) (by simp at hz⊢;omega) ?_;intro v' w3 am aC az))
    go_roundw
    case rel=>exact ⟨k+1,by omega,by go_num,by rw [aw.out,lA,HQ.out];exact am,(hK.trans ((((gO.refl _).alloc _).trans aj).alloc _)).app az⟩
    case measure=>simp [intOf];omega
  ·go_wp2;go_ret;have e:k=n:=by omega
   subst e;rw [List.take_of_length_le (by have:=HN.out;omega)] at ai;exact ⟨_,rfl,ai.mono aq.size,aq.trans hK⟩
theorem wrap_u64 (n:Nat) (h:n<18446744073709551616):IntKind.u64.wrap (n:Int)=n:=by
 have h1:IntKind.u64.wrap (n:Int)=(n:Int) % 18446744073709551616:=rfl;rw [h1];omega
theorem wrap_i64 (x:Int) (h0:0<=x) (h:x<9223372036854775808):IntKind.i64.wrap x=x:=by
 rw [IntKind.wrap_i64];omega
theorem jd (n:Nat) (h:n<18446744073709551616):(BitVec.ofInt 64 (n:Int)).toNat=n:=by
 simp;omega
theorem lk (a b:Nat) (ha:a<18446744073709551616) (hb:b<18446744073709551616):bits .and .u64 (a:Int) (b:Int)=((a &&& b:Nat):Int):=by
 have h:(BitVec.ofInt 64 (a:Int) &&& BitVec.ofInt 64 (b:Int)).toNat=a &&& b:=by rw [BitVec.toNat_and,jd a ha,jd b hb]
 show IntKind.u64.wrap (((BitVec.ofInt 64 (a:Int) &&& BitVec.ofInt 64 (b:Int)).toNat:Nat):Int)=_;rw [h];exact wrap_u64 _ (Nat.lt_of_le_of_lt Nat.and_le_left ha)
theorem oV (a b:Nat) (ha:a<9223372036854775808) (hb:b<9223372036854775808):bits .and .i64 (a:Int) (b:Int)=((a &&& b:Nat):Int):=by
 have h:(BitVec.ofInt 64 (a:Int) &&& BitVec.ofInt 64 (b:Int)).toNat=a &&& b:=by rw [BitVec.toNat_and,jd a (by omega),jd b (by omega)]
 show IntKind.i64.wrap (((BitVec.ofInt 64 (a:Int) &&& BitVec.ofInt 64 (b:Int)).toNat:Nat):Int)=_;rw [h];have:=Nat.and_le_left (n:=a) (m:=b);exact wrap_i64 _ (by omega) (by omega)
theorem AV (a b:Nat) (ha:a<9223372036854775808) (hb:b<9223372036854775808):bits .or .i64 (a:Int) (b:Int)=((a ||| b:Nat):Int):=by
 have h:(BitVec.ofInt 64 (a:Int) ||| BitVec.ofInt 64 (b:Int)).toNat=a ||| b:=by rw [BitVec.toNat_or,jd a (by omega),jd b (by omega)]
 show IntKind.i64.wrap (((BitVec.ofInt 64 (a:Int) ||| BitVec.ofInt 64 (b:Int)).toNat:Nat):Int)=_;rw [h];have:=Nat.or_lt_two_pow (n:=63) (x:=a) (y:=b) (by omega) (by omega);exact wrap_i64 _ (by omega) (by omega)
def iH (a b:Nat):Nat:=a ^^^ (a &&& b)
theorem td (a b:Nat) (ha:a<9223372036854775808) (hb:b<9223372036854775808):bits .andNot .i64 (a:Int) (b:Int)=((iH a b:Nat):Int):=by
 have h:(BitVec.ofInt 64 (a:Int) &&& ~~~ BitVec.ofInt 64 (b:Int)).toNat=iH a b:=by
  have e:BitVec.ofInt 64 (a:Int) &&& ~~~ BitVec.ofInt 64 (b:Int)=BitVec.ofInt 64 (a:Int) ^^^ (BitVec.ofInt 64 (a:Int) &&& BitVec.ofInt 64 (b:Int)):=by
   ext i hi
   simp only [BitVec.getElem_and,BitVec.getElem_not,BitVec.getElem_xor];cases (BitVec.ofInt 64 (a:Int))[i] <;> cases (BitVec.ofInt 64 (b:Int))[i] <;> rfl
  rw [e,BitVec.toNat_xor,BitVec.toNat_and,jd a (by omega),jd b (by omega)];rfl
 show IntKind.i64.wrap (((BitVec.ofInt 64 (a:Int) &&& ~~~ BitVec.ofInt 64 (b:Int)).toNat:Nat):Int)=_;rw [h];have h2:iH a b<2^63:=Nat.xor_lt_two_pow (by omega) (Nat.lt_of_le_of_lt Nat.and_le_left (by omega));exact wrap_i64 _ (by omega) (by omega)
def pc (n:Nat):Nat:=if n=0 then 0 else n % 2+pc (n / 2)
decreasing_by omega
theorem mJ (h l H L:Nat) (hl:l<256) (hL:L<256):(256*h+l) &&& (256*H+L)=256*(h &&& H)+(l &&& L):=by
 have h1:((256*h+l) &&& (256*H+L)) % 2^8=l &&& L:=by
  rw [Nat.and_mod_two_pow];congr 1 <;> omega
 have h2:((256*h+l) &&& (256*H+L)) / 2^8=h &&& H:=by
  rw [Nat.and_div_two_pow];congr 1 <;> omega
 have:=Nat.div_add_mod ((256*h+l) &&& (256*H+L)) (2^8);rw [h1,h2] at this;omega
theorem nj (a b c m:Nat) (ha:a<256) (hb:b<256) (M:Nat) (hm:m<256) (hM:M=256*(256*(256*(M / 16777216)+m)+m)+m) (hc:c<256) :
  (a+256*b+65536*c) &&& M=(a &&& m)+256*(b &&& m)+65536*(c &&& m):=by
 rw [hM,show a+256*b+65536*c=256*(256*c+b)+a from by omega,mJ _ _ _ _ ha hm,mJ _ _ _ _ hb hm,
  show c=256*0+c from by omega,mJ _ _ _ _ hc hm]
 simp;omega
def t1 (a:Nat):Nat:=(a / 2 &&& 0x55)+(a &&& 0x55)
def t2 (a:Nat):Nat:=(a / 4 &&& 0x33)+(a &&& 0x33)
def t3 (a:Nat):Nat:=(a / 16+a) &&& 15
theorem rX:∀ a<256,(a / 2 &&& 0x55)=((a / 2+128) &&& 0x55)/\t1 a<171:=by decide
theorem rY:∀ a<171,∀ r<4,(a / 4 &&& 0x33)=((a / 4+64*r) &&& 0x33)/\t2 a<103/\t2 a % 16<7:=by decide
theorem Ch:∀ a<103,∀ r<7,(a / 16+16*r+a) &&& 15=(t3 a)/\t3 a<16:=by decide
theorem sU:∀ a<256,t3 (t2 (t1 a))<9:=by decide
def s1 (x:Int):Int:=IntKind.u64.wrap (bits .and .u64 (x / 2) 6148914691236517205+bits .and .u64 x 6148914691236517205)
def s2 (x:Int):Int:=IntKind.u64.wrap (bits .and .u64 (x / 4) 3689348814741910323+bits .and .u64 x 3689348814741910323)
def s3 (x:Int):Int:=bits .and .u64 (IntKind.u64.wrap (x / 16+x)) 1085102592571150095
def s4 (x:Int):Int:=IntKind.u64.wrap (x+x / 256)
def s5 (x:Int):Int:=IntKind.u64.wrap (x+x / 65536)
def s6 (x:Int):Int:=IntKind.u64.wrap (x+x / 4294967296)
theorem GB (a b c:Nat) (ha:a<256) (hb:b<256) (hc:c<256):s1 ((a+256*b+65536*c:Nat):Int)=((t1 a+256*t1 b+65536*t1 c:Nat):Int):=by
 have e1:((a+256*b+65536*c:Nat):Int) / 2=(((a / 2+128*(b % 2))+256*(b / 2+128*(c % 2))+65536*(c / 2):Nat):Int):=by omega
 have ag:b % 2=0\/b % 2=1:=by omega
 have hc2:c % 2=0\/c % 2=1:=by omega
 have ka:=rX a ha;have kb:=rX b hb;have kc:=rX c hc;unfold s1
 rw [e1,show (6148914691236517205:Int)=((6148914691236517205:Nat):Int) from rfl,lk _ _ (by omega) (by decide),lk _ _ (by omega) (by decide),
  nj _ _ _ 0x55 (by omega) (by omega) _ (by decide) (by decide) (by omega),nj _ _ _ 0x55 ha hb _ (by decide) (by decide) hc]
 have ea:(a / 2+128*(b % 2)) &&& 0x55=a / 2 &&& 0x55:=by
  rcases ag with h | h <;> rw [h]
  ·rfl
  ·exact ka.1.symm
 have eb:(b / 2+128*(c % 2)) &&& 0x55=b / 2 &&& 0x55:=by
  rcases hc2 with h | h <;> rw [h]
  ·rfl
  ·exact kb.1.symm
 rw [ea,eb];have ja:=ka.2;have jb:=kb.2;have jc:=kc.2;unfold t1 at *;rw [show (((a / 2 &&& 85)+256*(b / 2 &&& 85)+65536*(c / 2 &&& 85):Nat):Int)+(((a &&& 85)+256*(b &&& 85)+65536*(c &&& 85):Nat):Int)=((((a / 2 &&& 85)+(a &&& 85))+256*((b / 2 &&& 85)+(b &&& 85))+65536*((c / 2 &&& 85)+(c &&& 85)):Nat):Int) from by omega];exact wrap_u64 _ (by omega)
theorem GC (a b c:Nat) (ha:a<171) (hb:b<171) (hc:c<171):s2 ((a+256*b+65536*c:Nat):Int)=((t2 a+256*t2 b+65536*t2 c:Nat):Int):=by
 have e1:((a+256*b+65536*c:Nat):Int) / 4=(((a / 4+64*(b % 4))+256*(b / 4+64*(c % 4))+65536*(c / 4):Nat):Int):=by omega
 have ka:=rY a ha (b % 4) (by omega);have kb:=rY b hb (c % 4) (by omega);have kc:=rY c hc 0 (by omega);unfold s2
 rw [e1,show (3689348814741910323:Int)=((3689348814741910323:Nat):Int) from rfl,lk _ _ (by omega) (by decide),lk _ _ (by omega) (by decide),
  nj _ _ _ 0x33 (by omega) (by omega) _ (by decide) (by decide) (by omega),nj _ _ _ 0x33 (by omega) (by omega) _ (by decide) (by decide) (by omega),<-ka.1,<-kb.1]
 have ja:=ka.2.1;have jb:=kb.2.1;have jc:=kc.2.1;clear ka kb kc e1;unfold t2 at *;rw [show (((a / 4 &&& 51)+256*(b / 4 &&& 51)+65536*(c / 4 &&& 51):Nat):Int)+(((a &&& 51)+256*(b &&& 51)+65536*(c &&& 51):Nat):Int)=((((a / 4 &&& 51)+(a &&& 51))+256*((b / 4 &&& 51)+(b &&& 51))+65536*((c / 4 &&& 51)+(c &&& 51)):Nat):Int) from by omega];exact wrap_u64 _ (by omega)
theorem GD (a b c:Nat) (ha:a<103) (hb:b<103) (hc:c<103) (ag:b % 16<7) (ah:c % 16<7):s3 ((a+256*b+65536*c:Nat):Int)=((t3 a+256*t3 b+65536*t3 c:Nat):Int):=by
 have e1:((a+256*b+65536*c:Nat):Int) / 16+((a+256*b+65536*c:Nat):Int)=(((a / 16+16*(b % 16)+a)+256*(b / 16+16*(c % 16)+b)+65536*(c / 16+c):Nat):Int):=by omega
 have ka:=Ch a ha (b % 16) ag;have kb:=Ch b hb (c % 16) ah;have kc:=Ch c hc 0 (by omega);unfold s3
 rw [e1,wrap_u64 _ (by omega),show (1085102592571150095:Int)=((1085102592571150095:Nat):Int) from rfl,lk _ _ (by omega) (by decide),
  nj _ _ _ 0x0f (by omega) (by omega) _ (by decide) (by decide) (by omega),ka.1,kb.1,show c / 16+c=c / 16+16*0+c from by omega,kc.1]
def IW (x:Int):Int:=bits .and .i64 (wrap64 (s6 (s5 (s4 (s3 (s2 (s1 x))))))) 127
def Kv (n:Nat):Nat:=t3 (t2 (t1 (n % 256)))+t3 (t2 (t1 (n / 256 % 256)))+t3 (t2 (t1 (n / 65536)))
theorem JD (n:Nat) (h:n<16777216):IW (n:Int)=(Kv n:Nat):=by
 unfold IW Kv;obtain ⟨a,ha⟩:∃ a,a=n % 256:=⟨_,rfl⟩;obtain ⟨b,hb⟩:∃ b,b=n / 256 % 256:=⟨_,rfl⟩;obtain ⟨c,hc⟩:∃ c,c=n / 65536:=⟨_,rfl⟩;rw [<-ha,<-hb,<-hc];have e:n=a+256*b+65536*c:=by omega
 have la:a<256:=by omega
 have lb:b<256:=by omega
 have lc:c<256:=by omega
 clear ha hb hc h;subst e;have a1:=(rX a la).2;have b1:=(rX b lb).2;have c1:=(rX c lc).2;have a2:=(rY _ a1 0 (by omega)).2;have b2:=(rY _ b1 0 (by omega)).2;have c2:=(rY _ c1 0 (by omega)).2;have a3:=sU a la;have b3:=sU b lb;have c3:=sU c lc;rw [GB a b c la lb lc,GC _ _ _ a1 b1 c1,GD _ _ _ a2.1 b2.1 c2.1 b2.2 c2.2];generalize t3 (t2 (t1 a))=x at *;generalize t3 (t2 (t1 b))=y at *;generalize t3 (t2 (t1 c))=z at *;clear a1 b1 c1 a2 b2 c2 la lb lc
 have f4:s4 ((x+256*y+65536*z:Nat):Int)=((x+y+256*(y+z)+65536*z:Nat):Int):=by
  unfold s4;rw [show ((x+256*y+65536*z:Nat):Int)+((x+256*y+65536*z:Nat):Int) / 256=((x+y+256*(y+z)+65536*z:Nat):Int) from by omega];exact wrap_u64 _ (by omega)
 have f5:s5 ((x+y+256*(y+z)+65536*z:Nat):Int)=((x+y+z+256*(y+z)+65536*z:Nat):Int):=by
  unfold s5;rw [show ((x+y+256*(y+z)+65536*z:Nat):Int)+((x+y+256*(y+z)+65536*z:Nat):Int) / 65536=((x+y+z+256*(y+z)+65536*z:Nat):Int) from by omega];exact wrap_u64 _ (by omega)
 have f6:s6 ((x+y+z+256*(y+z)+65536*z:Nat):Int)=((x+y+z+256*(y+z)+65536*z:Nat):Int):=by
  unfold s6;rw [show ((x+y+z+256*(y+z)+65536*z:Nat):Int)+((x+y+z+256*(y+z)+65536*z:Nat):Int) / 4294967296=((x+y+z+256*(y+z)+65536*z:Nat):Int) from by omega];exact wrap_u64 _ (by omega)
 rw [f4,f5,f6,show wrap64 ((x+y+z+256*(y+z)+65536*z:Nat):Int)=((x+y+z+256*(y+z)+65536*z:Nat):Int) from by unfold wrap64;omega,show (127:Int)=((127:Nat):Int) from rfl,oV _ _ (by omega) (by decide)];rw [show (127:Nat)=2^7 - 1 from rfl,Nat.and_two_pow_sub_one_eq_mod];omega
theorem nS:pc 0=0:=by rw [pc,if_pos rfl]
theorem j_ (m:Nat):pc m=m % 2+pc (m / 2):=by
 by_cases h0:m=0
 ·subst h0;rw [nS]
 ·rw [pc,if_neg h0]
theorem nR (n h:Nat) (hn:n<256):pc (256*h+n)=pc n+pc h:=by
 have key:∀ k n,n<2^k->∀ h,pc (2^k*h+n)=pc n+pc h:=by
  intro k;induction k with
  | zero =>
       intro n hn h;have:n=0:=by simpa using hn
       subst this;rw [nS];simp
  | succ k ih =>
   intro n hn h;rw [j_,j_ n];have e1:(2^(k+1)*h+n) % 2=n % 2:=by rw [Nat.pow_succ,Nat.mul_comm (2^k) 2,Nat.mul_assoc];omega
   have e2:(2^(k+1)*h+n) / 2=2^k*h+n / 2:=by rw [Nat.pow_succ,Nat.mul_comm (2^k) 2,Nat.mul_assoc];omega
   rw [e1,e2,ih (n / 2) (by rw [Nat.pow_succ] at hn;omega) h];omega
 exact key 8 n hn h
theorem xo:∀ a<256,t3 (t2 (t1 a))=pc a:=by
 have e:∀ a,a<256->pc a=a % 2+(a / 2 % 2+(a / 4 % 2+(a / 8 % 2+(a / 16 % 2+(a / 32 % 2+(a / 64 % 2+a / 128 % 2)))))):=by
  intro a ha;rw [j_ a,j_ (a / 2),j_ (a / 2 / 2),j_ (a / 2 / 2 / 2),j_ (a / 2 / 2 / 2 / 2),j_ (a / 2 / 2 / 2 / 2 / 2),j_ (a / 2 / 2 / 2 / 2 / 2 / 2),j_ (a / 2 / 2 / 2 / 2 / 2 / 2 / 2)];rw [show a / 2 / 2 / 2 / 2 / 2 / 2 / 2 / 2=0 from by omega,nS];omega
 have d:∀ a<256,t3 (t2 (t1 a))=a % 2+(a / 2 % 2+(a / 4 % 2+(a / 8 % 2+(a / 16 % 2+(a / 32 % 2+(a / 64 % 2+a / 128 % 2)))))):=by
  set_option maxRecDepth 100000 in decide
 intro a ha;rw [d a ha,e a ha]
theorem JC (n:Nat) (h:n<16777216):Kv n=pc n:=by
 unfold Kv;rw [xo _ (by omega),xo _ (by omega),xo _ (by omega)];have e1:=nR (n % 256) (n / 256) (by omega);have e2:=nR (n / 256 % 256) (n / 65536) (by omega);rw [show 256*(n / 256)+n % 256=n from by omega] at e1;rw [show 256*(n / 65536)+n / 256 % 256=n / 256 from by omega] at e2;omega
theorem JE (n:Nat) (h:n<16777216):IW (n:Int)=(pc n:Nat):=by rw [JD n h,JC n h]
theorem rq (x:Int) (w:World):Calls Tryz.prog 202 #[.int .i64 x] w fun e w'=>e=.returned (.bool false)/\w=w':=by
 go_enter Tryz.func202,Tryz.ntmps202;go_wp2;go_ret;exact ⟨by simp,rfl⟩
def ET (x y:Int):Int:=if x<y then -1 else if y<x then 1 else 0
theorem Cj (x y:Int) (w:World):Calls Tryz.prog 133 #[.int .i64 x,.int .i64 y] w fun e w'=>e=.returned (.int .i64 (ET x y))/\w=w':=by
 unfold ET;by_cases h1:x<y
 ·rw [if_pos h1];go_enter Tryz.func133,Tryz.ntmps133;go_wp2_with (go_at_call 202;refine (rq _ _).mono ?_;rintro e w' ⟨rfl,rfl⟩);go_ret;exact ⟨rfl,rfl⟩
 ·rw [if_neg h1];by_cases h2:y<x
  ·rw [if_pos h2];go_enter Tryz.func133,Tryz.ntmps133;go_wp2_with (go_at_call 202;refine (rq _ _).mono ?_;rintro e w' ⟨rfl,rfl⟩);go_ret;exact ⟨rfl,rfl⟩
  ·rw [if_neg h2];go_enter Tryz.func133,Tryz.ntmps133;go_wp2_with (go_at_call 202;refine (rq _ _).mono ?_;rintro e w' ⟨rfl,rfl⟩);go_ret;exact ⟨rfl,rfl⟩
theorem qe (x:Int) (w:World):Calls Tryz.prog 241 #[.int .u64 x] w fun e w'=>e=.returned (.int .i64 (IW x))/\w=w':=by
 go_enter Tryz.func241,Tryz.ntmps241;go_wp2;go_ret;exact ⟨rfl,rfl⟩
theorem FM (x:Int) (w:World):Calls Tryz.prog 203 #[.int .u64 x] w fun e w'=>e=.returned (.int .i64 (IW x))/\w=w':=by
 go_enter Tryz.func203,Tryz.ntmps203;go_wp2_with (go_at_call 241;refine (qe _ _).mono ?_;rintro e w' ⟨rfl,rfl⟩);go_ret;exact ⟨rfl,rfl⟩
def Mk (n:Nat):Prop:=n<16777216
theorem Ak {n:Nat} (h:Mk n):bits .and .i64 (n:Int) 16777215=n:=by
 unfold Mk at h;rw [show (16777215:Int)=((16777215:Nat):Int) from rfl,oV _ _ (by omega) (by decide),show (16777215:Nat)=2^24 - 1 from rfl,Nat.and_two_pow_sub_one_eq_mod];omega
theorem ts {n:Nat} (h:Mk n) (w:World):Calls Tryz.prog 135 #[.int .i64 n] w fun e w'=>e=.returned (.int .i64 n)/\w=w':=by
 have:=Cm n w
 rwa [Ak h] at this
theorem IG {n:Nat} (h:Mk n):IntKind.u64.wrap (n:Int)=n:=wrap_u64 n (by unfold Mk at h;omega)
theorem vw {n:Nat} (h:Mk n) (w:World):Calls Tryz.prog 134 #[.int .i64 n] w fun e w'=>e=.returned (.int .i64 (pc n))/\w=w':=by
 have hw:=IG h;have hp:IW (n:Int)=(pc n:Nat):=JE n h;have H:=af h;clear h;go_enter Tryz.func134,Tryz.ntmps134
 go_wp2_with (first
  | (go_at_call 135;refine (ts H.out _).mono ?_;rintro e w' ⟨rfl,rfl⟩)
  | (go_at_call 203;refine (FM _ _).mono ?_;rintro e w' ⟨rfl,rfl⟩))
 go_ret;exact ⟨rfl,rfl⟩
def EU (a b:Nat):Int:=if pc a<pc b then -1 else if pc b<pc a then 1 else if a<b then -1 else if b<a then 1 else 0
theorem yl {a b:Nat} (ha:Mk a) (hb:Mk b) (w:World):Calls Tryz.prog 79 #[.int .i64 a,.int .i64 b] w fun e w'=>e=.returned (.int .i64 (EU a b))/\w=w':=by
 have HA:=af ha;have HB:=af hb;clear ha hb;obtain ⟨x,hx⟩:∃ x,x=ET (pc a) (pc b):=⟨_,rfl⟩;have HX:=af hx;clear hx
 have hr:EU a b=if x == 0 then ET a b else x:=by
  have:=HX.out;unfold EU;unfold ET at this⊢;split at this
  ·rw [if_pos (by omega)];simp [this]
  ·split at this
   ·rw [if_neg (by omega),if_pos (by omega)];simp [this]
   ·rw [if_neg (by omega),if_neg (by omega)];simp [this]
 rw [hr];clear hr;cases ah:x == 0
 all_goals
  have ag:(x != 0)=!(x == 0):=rfl;rw [ah] at ag;simp only [Bool.not_true,Bool.not_false] at ag;go_enter Tryz.func79,Tryz.ntmps79
  go_wp2_with (first
   | (go_at_call 134;refine (vw (by first | exact HA.out | exact HB.out) _).mono ?_;rintro e w' ⟨rfl,rfl⟩)
   | (go_at_call 133;refine (Cj _ _ _).mono ?_;rintro e w' ⟨rfl,rfl⟩;rw [<-HX.out])
   | (go_at_call 133;refine (Cj _ _ _).mono ?_;rintro e w' ⟨rfl,rfl⟩)
   | (go_at_call 135;refine (ts (by first | exact HA.out | exact HB.out) _).mono ?_;rintro e w' ⟨rfl,rfl⟩))
  go_ret;exact ⟨rfl,rfl⟩
section
open Go.Lib Go.Sort Go.RowKit
theorem kC {α:Type} (lt:α->α->Prop) (irr:∀ a,¬ lt a a) (tr:∀ a b c,lt a b->lt b c->lt a c) :
  ∀ (l1 l2:List α),l1.Pairwise lt->l2.Pairwise lt->(∀ x,x∈l1 ↔ x∈l2)->l1=l2:=by
 intro l1;induction l1 with
 | nil =>
  intro l2 _ _ h;cases l2 with
  | nil=>rfl
  | cons b l2=>exact absurd ((h b).2 (List.mem_cons_self ..)) (by simp)
 | cons a l1 ih =>
  intro l2 h1 h2 h;cases l2 with
  | nil=>exact absurd ((h a).1 (List.mem_cons_self ..)) (by simp)
  | cons b l2 =>
   rw [List.pairwise_cons] at h1 h2
   have hab:a=b:=by
    rcases List.mem_cons.1 ((h a).1 (List.mem_cons_self ..)) with e | e
    ·exact e
    ·rcases List.mem_cons.1 ((h b).2 (List.mem_cons_self ..)) with e2 | e2
     ·exact e2.symm
     ·exact absurd (tr _ _ _ (h1.1 b e2) (h2.1 a e)) (irr a)
   subst hab;congr 1;refine ih l2 h1.2 h2.2 fun x=>⟨fun hx=>?_,fun hx=>?_⟩
   ·rcases List.mem_cons.1 ((h x).1 (List.mem_cons_of_mem _ hx)) with e | e
    ·subst e;exact absurd (h1.1 x hx) (irr x)
    ·exact e
   ·rcases List.mem_cons.1 ((h x).2 (List.mem_cons_of_mem _ hx)) with e | e
    ·subst e;exact absurd (h2.1 x hx) (irr x)
    ·exact e
theorem tp {α:Type} [Inhabited α] [DecidableEq α] (lt:α->α->Prop) (tr:∀ a b c,lt a b->lt b c->lt a c) (d:Array α)
  (hs:∀ i j,i<j->j<d.size->lt d[i]! d[j]!\/d[i]! = d[j]!):∀ m,m<=d.size->(compactUpTo d m).Pairwise lt/\∀ x,x∈compactUpTo d m ↔ ∃ j,j<m/\d[j]! = x:=by
 intro m;induction m with
 | zero=>intro _;simp [compactUpTo]
 | succ m ih =>
  intro hm;obtain ⟨i1,i2⟩:=ih (by omega);rw [compactUpTo_succ];by_cases h0:m=0
  ·subst h0;simp [keeps,compactUpTo];exact fun x=>eq_comm
  by_cases h:d[m]! = d[m - 1]!
  ·rw [keeps_neg (by omega) h];simp only [Bool.false_eq_true,if_false,List.append_nil];refine ⟨i1,fun x=>?_⟩;rw [i2];constructor
   ·rintro ⟨j,hj,e⟩;exact ⟨j,by omega,e⟩
   ·rintro ⟨j,hj,e⟩;by_cases e2:j=m
    ·subst e2;exact ⟨j - 1,by omega,by rw [<-e,h]⟩
    ·exact ⟨j,by omega,e⟩
  ·rw [keeps_pos h];simp only [if_true];refine ⟨?_,fun x=>?_⟩
   ·rw [List.pairwise_append];refine ⟨i1,by simp,?_⟩;intro x hx y hy;simp at hy;subst hy;obtain ⟨j,hj,e⟩:=(i2 x).1 hx;subst e;have ag:lt d[m - 1]! d[m]!:=(hs (m - 1) m (by omega) (by omega)).resolve_right (fun e=>h e.symm);by_cases e3:j=m - 1
    ·subst e3;exact ag
    ·rcases hs j (m - 1) (by omega) (by omega) with e4 | e4
     ·exact tr _ _ _ e4 ag
     ·rw [e4];exact ag
   ·rw [List.mem_append,i2];simp only [List.mem_singleton];constructor
    ·rintro (⟨j,hj,e⟩ | e)
     ·exact ⟨j,by omega,e⟩
     ·exact ⟨m,by omega,e.symm⟩
    ·rintro ⟨j,hj,e⟩;by_cases e2:j=m
     ·subst e2;exact .inr e.symm
     ·exact .inl ⟨j,by omega,e⟩
def lI (a b:Nat):Prop:=pc a<pc b\/pc a=pc b/\a<b
instance:DecidableRel lI:=fun a b=>by unfold lI;exact inferInstance
theorem kO (a:Nat):¬ lI a a:=by unfold lI;omega
theorem mY (a b c:Nat) (h1:lI a b) (h2:lI b c):lI a c:=by unfold lI at *;omega
theorem oZ (a b:Nat):lI a b\/a=b\/lI b a:=by unfold lI;omega
def oK (x:Nat):List Nat->List Nat
 | []=>[x]
 | y :: l=>if lI x y then x :: y :: l else if x=y then y :: l else y :: oK x l
def iA:List Nat->List Nat
 | []=>[]
 | x :: l=>oK x (iA l)
theorem yK (x:Nat) (l:List Nat) (z:Nat):z∈oK x l ↔ z=x\/z∈l:=by
 induction l with
 | nil=>simp [oK]
 | cons y l ih =>
  unfold oK;split
  ·simp
  ·split
   ·rename_i h;subst h;simp
   ·simp [ih];constructor <;> rintro (h | h | h) <;> simp [h]
theorem DF (x:Nat) (l:List Nat) (h:l.Pairwise lI):(oK x l).Pairwise lI:=by
 induction l with
 | nil=>simp [oK]
 | cons y l ih =>
  rw [List.pairwise_cons] at h;unfold oK;split
  ·rename_i hx;refine List.pairwise_cons.2 ⟨fun z hz=>?_,List.pairwise_cons.2 h⟩;rcases List.mem_cons.1 hz with e | e
   ·rw [e];exact hx
   ·exact mY _ _ _ hx (h.1 z e)
  ·split
   ·exact List.pairwise_cons.2 h
   ·rename_i h1 h2;refine List.pairwise_cons.2 ⟨fun z hz=>?_,ih h.2⟩;rcases (yK x l z).1 hz with e | e
    ·rw [e];rcases oZ x y with e2 | e2 | e2
     ·exact absurd e2 h1
     ·exact absurd e2 h2
     ·exact e2
    ·exact h.1 z e
theorem jG (l:List Nat) (z:Nat):z∈iA l ↔ z∈l:=by
 induction l with
 | nil=>simp [iA]
 | cons x l ih=>simp [iA,yK,ih]
theorem jZ (l:List Nat):(iA l).Pairwise lI:=by
 induction l with
 | nil=>simp [iA]
 | cons x l ih=>exact DF x _ ih
theorem mb (l r:List Nat) (h:r.Pairwise lI) (hm:∀ x,x∈r ↔ x∈l):r=iA l :=
 kC lI kO mY r (iA l) h (jZ l) fun x=>by rw [hm,jG]
theorem sI (l r:List Nat) (hm:∀ x,x∈r ↔ x∈l):iA r=iA l :=
 mb l (iA r) (jZ r) fun x=>by rw [jG,hm]
theorem Fu (x:Nat) (l:List Nat):(oK x l).length<=l.length+1:=by
 induction l with
 | nil=>simp [oK]
 | cons y l ih =>
  unfold oK;split
  ·simp
  ·split
   ·simp
   ·simp;omega
theorem nu (l:List Nat):(iA l).length<=l.length:=by
 induction l with
 | nil=>simp [iA]
 | cons x l ih=>have:=Fu x (iA l);simp [iA];omega
end
section
open Go.RowKit Go.Lib Go.Sort Go.Shelf
theorem vv (v:Value) (xs:List Int) (w:World) (hv:gU w v xs) (hl:xs.length<=17592186044416) :
  Calls Tryz.prog 83 #[v] w fun e w'=>∃ v',e=.returned v'/\OwnInts w' w.heap.size v' xs/\gO w w':=by
 obtain ⟨a,c,rfl,⟨hc,_⟩,ag,hx⟩:=hv;cases a with
 | none =>
  have h0:xs=[]:=by
   cases xs with
   | nil=>rfl
   | cons x xs=>obtain ⟨b,o,h,_⟩:=hx 0 (by simp);cases h
  subst h0;exact (Go.Proofs.Tryz.slices_Clone_int_nil _ _ _).mono fun e w' ⟨h1,h2⟩=>⟨_,h1,by subst h2;exact OwnInts.nil _ _,by subst h2;exact gO.refl _⟩
 | some a =>
  by_cases h0:xs=[]
  ·subst h0;exact (Go.Proofs.Tryz.slices_Clone_int_zero a c w).mono fun e w' ⟨v',h1,h2,_,h3⟩=>⟨v',h1,⟨by simpa using h2,by simp⟩,h3⟩
  ·obtain ⟨b,o,h1,_⟩:=hx 0 (List.length_pos_iff.2 h0);cases h1;refine (Go.Proofs.Tryz.slices_Clone_int b o xs.length c xs w (Nat.le_refl _) (by omega) ?_).mono fun e w' ⟨v',h1,h2,_,h3⟩=>⟨v',h1,⟨by simpa using h2,ag⟩,h3⟩
   intro j hj;obtain ⟨b',o',h2,h3⟩:=hx j hj;cases h2;rw [h3];simp [hj]
abbrev ib (ns:List Nat):List Int:=ns.map fun n:Nat=>(n:Int)
abbrev JX:=Fin 16777216
def wV (n:JX):Value:=.int .i64 (n.val:Int)
def Hl (a b:JX):Int:=EU a.val b.val
theorem IO (a b:JX):ltOf Hl a b=decide (lI a.val b.val):=by
 unfold ltOf Hl EU lI;by_cases h1:pc a.val<pc b.val
 ·simp [h1]
 ·by_cases h2:pc b.val<pc a.val
  ·have:¬ pc a.val=pc b.val:=by omega
   simp [h1,h2,this]
  ·have:pc a.val=pc b.val:=by omega
   by_cases h3:a.val<b.val
   ·simp [this,h3]
   ·by_cases h4:b.val<a.val <;> simp [this,h3,h4]
theorem KH:SWO (ltOf Hl) where
 irrefl x:=by rw [IO];simp [kO]
 trans x y z h1 h2:=by rw [IO] at *;simp at *;exact mY _ _ _ h1 h2
 ntrans x y z h1 h2:=by rw [IO] at *;simp at *;unfold lI at *;omega
theorem KJ (x y:JX) (h1:ltOf Hl x y=false) (h2:ltOf Hl y x=false):x=y:=by
 rw [IO] at *;simp at *;rcases oZ x.val y.val with h | h | h
 ·exact absurd h h1
 ·exact Fin.ext h
 ·exact absurd h h2
theorem Ho (blk off size:Nat) (w:World):CmpLays1 Tryz.prog 79 #[] wV Hl blk off size w:=by
 refine CmpReads.lays fun m os dk _ x y=>?_
 exact (yl (show Mk x.val from x.isLt) (show Mk y.val from y.isLt) _).mono fun e w' ⟨h1,h2⟩=>⟨h1,0,by subst h2;rfl⟩
theorem mN {w:World} {g:Nat} {o:Obj} (h:w.heap[g]?=some o):g<w.heap.size:=by
 rcases Nat.lt_or_ge g w.heap.size with h1 | h1
 ·exact h1
 ·simp [Array.getElem?_eq_none h1] at h
theorem oI {α:Type} [Inhabited α] (enc:α->Value) (w:World) (q g off:Nat) (d:Array α) {cur:Array Value} {e:TypeId} {fr:Nat × Nat} (h:w.heap[g]?=some (.cells cur e fr)) :
  (putRow enc (Sort.ahead w q) g off d).heap[g]?=some (.cells (putCells enc off d cur) e fr):=by
 show (w.heap.modify g (onCells (putCells enc off d)))[g]?=_;simp [Array.getElem?_modify,h,onCells]
theorem mq {α:Type} [Inhabited α] (enc:α->Value) (w:World) (q g off k:Nat) (d:Array α) (hk:k≠g):(putRow enc (Sort.ahead w q) g off d).heap[k]?=w.heap[k]?:=by
 show (w.heap.modify g (onCells (putCells enc off d)))[k]?=_;simp [Array.getElem?_modify,Ne.symm hk]
theorem m_ {α:Type} [Inhabited α] (enc:α->Value) (d:Array α) (cur:Array Value) (n:Nat) (hd:d.size=n) (hc:n<=cur.size) :
  (putCells enc 0 d cur).size=cur.size/\(putCells enc 0 d cur).toList.take n=d.toList.map enc:=by
 refine ⟨by simp [putCells],?_⟩;apply List.ext_getElem?;intro i;simp only [putCells,Array.toList_mapIdx,List.getElem?_take,List.getElem?_mapIdx,List.getElem?_map];by_cases h:i<n
 ·have h1:i<cur.toList.length:=by simpa using (by omega:i<cur.size)
  have h2:i<d.size:=by omega
  rw [if_pos h,List.getElem?_eq_getElem h1];simp [h2,getElem!_pos,Nat.zero_add]
 ·rw [if_neg h,List.getElem?_eq_none (by simp;omega)];rfl
theorem zH (B:Nat) (v:Value) (ns:List Nat) (w:World) (hm:∀ n∈ns,Mk n) (hv:OwnInts w B v (ib ns)) (hB:B<=w.heap.size) :
  Calls Tryz.prog 78 #[v,.func (.func 79) #[] #[]] w fun e w'=>e=.returned (.tuple #[])/\∃ rs:List Nat,(∀ n∈rs,Mk n)/\rs.length=ns.length/\rs.Pairwise (fun a b=>lI a b\/a=b)/\(∀ x,x∈rs ↔ x∈ns)/\OwnInts w' B v (ib rs)/\Below B w w':=by
 obtain ⟨aj,ap⟩:=hv;by_cases h0:ns=[]
 ·subst h0;have az:=aj;obtain ⟨_,h2⟩:=aj
  have:∃ p c,v=.slice p 0 c:=by
   rcases h2 with ⟨h2,_⟩ | ⟨g,cap,cur,h2,_⟩
   ·exact ⟨_,_,h2⟩
   ·exact ⟨_,cap,by simpa using h2⟩
  obtain ⟨p,c,rfl⟩:=this;exact (Go.Proofs.Tryz.slices_SortFunc_none (α:=Nat) p c _ w).mono fun e w' ⟨h3,h4⟩=>⟨h3,[],by simp,by simp,by simp,by simp,by subst h4;exact ⟨az,by simp⟩,by subst h4;exact Below.refl _ _⟩
 ·obtain ⟨h1,h2⟩:=aj;rcases h2 with ⟨_,h2⟩ | ⟨g,cap,cur,rfl,hg,hh,hn,hcap,hsz,aA⟩
  ·simp at h2;exact absurd h2 h0
  ·obtain ⟨ds,al⟩:∃ ds:List JX,ds.map (fun n=>n.val)=ns:=⟨ns.pmap (fun n (h:Mk n)=>(⟨n,h⟩:JX)) hm,by rw [List.map_pmap];simp⟩;have ai:ds.length=ns.length:=by rw [<-al];simp
   have hH:Holds wV w g 0 ds.toArray:=by
    intro j hj;have hj':j<ns.length:=by rw [<-ai];simpa using hj
    refine ⟨?_,by simp [World.frozen?,hh]⟩;have e1:(cur.toList.take ((ib ns).length*1))[j]?=((ib ns).map (Value.int .i64))[j]?:=by rw [aA]
    rw [List.getElem?_take_of_lt (by simpa using hj')] at e1;simp only [World.cell?,hh,Nat.zero_add];rw [show cur[j]?=cur.toList[j]? from by simp];simp only [Option.isSome_none,Bool.false_eq_true,if_false];rw [e1];have aq:j<ds.length:=by simpa using hj
    have e2:ns[j]?=some (ds[j].val):=by rw [<-al];simp [aq]
    have e3:ns[j]=ds[j].val:=by rw [List.getElem?_eq_getElem hj'] at e2;exact Option.some.inj e2
    simp [hj',wV,e3,getElem!_pos,aq]
   have hS:=Go.Proofs.Tryz.slices_SortFunc_total wV (fun _=>rfl) Hl KH 79 #[] g 0 cap ds.toArray w (enters_of Tryz.func79 (by kernel_rfl) rfl) (Ho g 0 _ w) hH (mN hh) (by simp at ap⊢;omega) KJ;have el:(ib ns).length=ds.toArray.size:=by simp [ai]
   rw [el];refine hS.mono fun e w' ⟨h3,n,os,h4⟩=>⟨h3,?_⟩
   clear hS h3;obtain ⟨ms,am⟩:∃ ms,ms=ds.toArray.toList.mergeSort fun x y=>!(ltOf Hl) y x:=⟨_,rfl⟩
   rw [<-am] at h4;have ah:ms.Perm ds:=by rw [am];simpa using List.mergeSort_perm ds _
   have ag:ms.Pairwise fun a b=>(!(ltOf Hl) b a)=true:=by
    rw [am];refine List.pairwise_mergeSort (fun a b c h1 h2=>?_) (fun a b=>?_) _
    ·rw [IO] at *;simp at *;unfold lI at *;omega
    ·rw [IO,IO];simp;unfold lI;omega
   have ar:ms.length=ds.length:=ah.length_eq;refine ⟨ms.map (fun n=>n.val),?_,by simp [ar,ai],?_,?_,?_,?_⟩
   ·intro n hn;obtain ⟨m,_,rfl⟩:=List.mem_map.1 hn;exact m.isLt
   ·rw [List.pairwise_map];refine ag.imp fun h=>?_
    rw [IO] at h;simp at h;rcases oZ _ _ with h5 | h5 | h5
    ·exact .inl h5
    ·exact .inr h5
    ·exact absurd h5 h
   ·intro x;rw [<-al];simp [ah.mem_iff]
   ·subst h4;have aw:=oI wV w n g 0 ms.toArray hh;have ay:=m_ wV ms.toArray cur ms.length (by simp) (by rw [hsz];simp at hn;omega);refine ⟨⟨by simp,.inr ⟨g,cap,putCells wV 0 ms.toArray cur,by simp [ar],hg,?_,by simp at hn⊢;omega,hcap,by rw [ay.1];exact hsz,?_⟩⟩,by simp at ap⊢;omega⟩
    ·rw [sortWorld,heap_grow_old _ _ (mN aw)];exact aw
    ·have:=ay.2;simp only [List.length_map,Nat.mul_one];rw [this];simp [wV]
   ·subst h4;refine ⟨rfl,rfl,rfl,?_,fun k hk=>?_⟩
    ·show w.heap.size<=((w.heap.modify g _)++os).size;simp
    ·have aB:k≠g:=by omega
     rw [sortWorld,heap_grow_old _ _ (by show k<(w.heap.modify g _).size;simp;omega)];exact mq wV w n g 0 k _ aB
end
section
open Go.RowKit Go.Lib Go.Sort Go.Shelf
theorem yk (rs:List Nat) (hr:rs.Pairwise (fun a b=>lI a b\/a=b)):Lib.compact (ib rs)=ib (iA rs):=by
 have h:=tp (α:=Int) (fun a b=>lI a.toNat b.toNat) (fun a b c h1 h2=>mY _ _ _ h1 h2) (ib rs).toArray (by
  intro i j ag hj;have hj':j<rs.length:=by simpa using hj
  have hi':i<rs.length:=by omega
  have:=List.pairwise_iff_getElem.1 hr i j hi' hj' ag;simp only [ib,List.getElem!_toArray,List.getElem!_eq_getElem?_getD,List.getElem?_map,List.getElem?_eq_getElem hj',List.getElem?_eq_getElem hi',Option.map_some,Option.getD_some,Int.toNat_natCast];rcases this with h | h
  ·exact .inl h
  ·exact .inr (by rw [h])) (ib rs).length (by simp)
 show compactUpTo (ib rs).toArray (ib rs).length=_;refine kC (fun a b:Int=>lI a.toNat b.toNat) (fun a=>kO _) (fun a b c h1 h2=>mY _ _ _ h1 h2) _ _ h.1 ?_ ?_
 ·rw [List.pairwise_map];simpa using jZ rs
 ·intro x;rw [h.2];simp only [List.mem_map,jG];constructor
  ·rintro ⟨j,hj,e⟩;have hj':j<rs.length:=by simpa using hj
   refine ⟨rs[j],List.getElem_mem _,?_⟩;rw [<-e];simp [hj']
  ·rintro ⟨n,hn,rfl⟩;obtain ⟨j,hj,e⟩:=List.getElem_of_mem hn;exact ⟨j,by simpa using hj,by simp [hj,e]⟩
theorem yj (B:Nat) (v:Value) (ns:List Nat) (w:World) (hr:ns.Pairwise (fun a b=>lI a b\/a=b)) (hv:OwnInts w B v (ib ns)) (hB:B<=w.heap.size) :
  Calls Tryz.prog 218 #[v] w fun e w'=>∃ v',e=.returned v'/\OwnInts w' B v' (ib (iA ns))/\Below B w w':=by
 obtain ⟨ai,ar⟩:=hv;by_cases h0:ns=[]
 ·subst h0;have al:=ai;obtain ⟨_,h2⟩:=ai
  have:∃ p c,v=.slice p 0 c:=by
   rcases h2 with ⟨h2,_⟩ | ⟨g,cap,cur,h2,_⟩
   ·exact ⟨_,_,h2⟩
   ·exact ⟨_,cap,by simpa using h2⟩
  obtain ⟨p,c,rfl⟩:=this;exact (Go.Proofs.Tryz.slices_Compact_int_empty p c w).mono fun e w' ⟨h3,h4⟩=>⟨_,h3,by subst h4;exact ⟨al,by simp [iA]⟩,by subst h4;exact Below.refl _ _⟩
 ·obtain ⟨h1,h2⟩:=ai;rcases h2 with ⟨_,h2⟩ | ⟨g,cap,cur,rfl,hg,hh,hn,hcap,hsz,am⟩
  ·simp at h2;exact absurd h2 h0
  ·have hH:Holds (Value.int .i64) w g 0 (ib ns).toArray:=by
    intro j hj;have hj':j<ns.length:=by simpa using hj
    refine ⟨?_,by simp [World.frozen?,hh]⟩;have e1:(cur.toList.take ((ib ns).length*1))[j]?=((ib ns).map (Value.int .i64))[j]?:=by rw [am]
    rw [List.getElem?_take_of_lt (by simpa using hj')] at e1;simp only [World.cell?,hh,Nat.zero_add];rw [show cur[j]?=cur.toList[j]? from by simp];simp only [Option.isSome_none,Bool.false_eq_true,if_false];rw [e1];simp [hj']
   have hS:=Go.Proofs.Tryz.slices_Compact_int g 0 cap (ib ns) w hH (by omega) hn;refine hS.mono fun e w' ⟨h3,q,h4⟩=>⟨_,h3,?_,?_⟩
   ·clear hS h3;subst h4;have ag:=compact_length_le (ib ns);obtain ⟨zs,ah⟩:∃ zs,zs=(Lib.compact (ib ns)++List.replicate ((ib ns).length - (Lib.compact (ib ns)).length) 0).toArray:=⟨_,rfl⟩;rw [<-ah];have ap:zs.size=(ib ns).length:=by rw [ah];simp at ag⊢;omega
    have aq:=oI (Value.int .i64) w q g 0 zs hh;have aj:=m_ (Value.int .i64) zs cur (ib ns).length ap (by rw [hsz];omega);rw [yk ns hr] at ah ag⊢;refine ⟨⟨by simp,.inr ⟨g,cap,putCells (Value.int .i64) 0 zs cur,rfl,hg,aq,by omega,hcap,by rw [aj.1];exact hsz,?_⟩⟩,by omega⟩;have e2:=congrArg (List.take (ib (iA ns)).length) aj.2;rw [List.take_take,Nat.min_eq_left ag] at e2;rw [Nat.mul_one,e2,ah];simp
   ·subst h4;refine ⟨rfl,rfl,rfl,?_,fun k hk=>mq _ w q g 0 k _ (by omega)⟩;show w.heap.size<=(w.heap.modify g _).size;simp
theorem uN (v:Value) (ns:List Nat) (w:World) (hm:∀ n∈ns,Mk n) (hv:gU w v (ib ns)) (hl:ns.length<=17592186044416) :
  Calls Tryz.prog 154 #[v] w fun e w'=>∃ v',e=.returned v'/\OwnInts w' w.heap.size v' (ib (iA ns))/\gO w w':=by
 have H1:=af (vv v _ w hv (by simpa using hl));have HM:=af hm;clear hv hm hl;go_enter Tryz.func154,Tryz.ntmps154
 go_wp2_with (first
  | (go_at_call 83;refine H1.out.mono ?_;rintro e w1 ⟨v1,rfl,ag,ah⟩;have ai:=ah.size;have O1:=af ag;clear ag)
  | (go_at_call 78;refine (zH w.heap.size v1 ns w1 HM.out O1.out ai).mono ?_;rintro e w2 ⟨rfl,rs,ar,aw,aj,al,am,ap⟩;have O2:=af am;have R3:=af aj;have R4:=af al;clear am ar aw aj al)
  | (go_at_call 218;refine (yj w.heap.size v1 rs w2 R3.out O2.out (Nat.le_trans ai ap.size)).mono ?_;rintro e w3 ⟨v3,rfl,aq,ay⟩))
 go_ret;refine ⟨_,rfl,?_,(ah.app ap).app ay⟩;have e:iA rs=iA ns:=sI ns rs R4.out;rw [e] at aq;exact aq
def iE (a b:Nat):Bool:=iH a b == 0
theorem wv {a b:Nat} (ha:Mk a) (hb:Mk b):BC (a:Int) (b:Int)=iE a b:=by
 unfold BC iE;rw [Ak ha,td a b (by unfold Mk at ha;omega) (by unfold Mk at hb;omega)];rw [Bool.eq_iff_iff];simp
def iu (out:List Nat) (s:Nat):List Nat:=if out.any (fun t=>iE t s) then out else out++[s]
def nP (l:List Nat):List Nat:=l.foldl iu []
theorem qN (l:List Nat):∀ out x,x∈l.foldl iu out->x∈out\/x∈l:=by
 induction l with
 | nil=>intro out x h;exact .inl h
 | cons s l ih =>
  intro out x h;rcases ih _ x h with h | h
  ·unfold iu at h;split at h
   ·exact .inl h
   ·rcases List.mem_append.1 h with h | h
    ·exact .inl h
    ·simp at h;subst h;exact .inr (List.mem_cons_self ..)
  ·exact .inr (List.mem_cons_of_mem _ h)
theorem Ds (l:List Nat) (hl:∀ n∈l,Mk n):tL (ib l)=ib (nP l):=by
 have key:∀ (l:List Nat) (out:List Nat),(∀ n∈l,Mk n)->(∀ n∈out,Mk n)->(ib l).foldl lA (ib out)=ib (l.foldl iu out):=by
  intro l;induction l with
  | nil=>intro out _ _;rfl
  | cons s l ih =>
   intro out h1 h2;have hs:Mk s:=h1 s (List.mem_cons_self ..)
   have e:lA (ib out) (s:Int)=ib (iu out s):=by
    unfold lA iu
    have e1:(ib out).any (fun t=>BC t s)=out.any (fun t=>iE t s):=by
     rw [List.any_map];rw [Bool.eq_iff_iff,List.any_eq_true,List.any_eq_true];constructor
     ·rintro ⟨x,hx,h⟩;exact ⟨x,hx,by rw [<-wv (h2 x hx) hs];exact h⟩
     ·rintro ⟨x,hx,h⟩;exact ⟨x,hx,by simp only [Function.comp];rw [wv (h2 x hx) hs];exact h⟩
    rw [e1];split
    ·rfl
    ·simp
   have h3:=ih (iu out s) (fun n hn=>h1 n (List.mem_cons_of_mem _ hn)) (fun n hn=>by
    unfold iu at hn;split at hn
    ·exact h2 n hn
    ·rcases List.mem_append.1 hn with h | h
     ·exact h2 n h
     ·simp at h;subst h;exact hs)
   show (ib l).foldl lA (lA (ib out) (s:Int))=_;rw [e,h3];rfl
 exact key l [] hl (by simp)
def iy (l:List Nat):List Nat:=nP (iA l)
theorem nx {l:List Nat} {x:Nat} (h:x∈iy l):x∈l:=by
 rcases qN _ _ _ h with h | h
 ·simp at h
 ·exact (jG _ _).1 h
theorem AK (l r:List Nat) (hm:∀ x,x∈r ↔ x∈l):iy r=iy l:=by unfold iy;rw [sI l r hm]
theorem tE (l:List Nat):∀ out,(l.foldl iu out).length<=out.length+l.length:=by
 induction l with
 | nil=>intro out;simp
 | cons s l ih =>
  intro out;refine Nat.le_trans (ih _) ?_;unfold iu;split <;> simp <;> omega
theorem yF (l:List Nat):(iy l).length<=l.length:=by
 have h1:=tE (iA l) [];have h2:=nu l;simp at h1;unfold iy nP;omega
theorem xf (v:Value) (ns:List Nat) (w:World) (hm:∀ n∈ns,Mk n) (hv:gU w v (ib ns)) (hl:ns.length<=8796093022208) :
  Calls Tryz.prog 155 #[v] w fun e w'=>∃ v',e=.returned v'/\OwnInts w' w.heap.size v' (ib (iy ns))/\gO w w':=by
 have ag:=nu ns;refine (yN v w (ib (iA ns)) (by simp;omega) ?_).mono fun e w' ⟨v',h1,h2,h3⟩=>⟨v',h1,?_,h3⟩
 ·exact (uN v ns w hm hv (by omega)).mono fun e w' ⟨v',h1,h2,h3⟩=>⟨v',h1,h2.ints,h3⟩
 ·rw [Ds _ fun n hn=>hm n ((jG _ _).1 hn)] at h2;exact h2
end
theorem uC {w:World} {va vb:Value} {xs ys:List Int} (ha:gU w va xs) (hb:gU w vb ys):oA gU (w.alloc (.cells #[va,vb] 22)) (.slice (some ⟨w.heap.size,0,none⟩) 2 2) [xs,ys] :=
 ⟨_,_,rfl,⟨by simp,fun h=>by cases h⟩,by simp,fun i h=>by
  match i,h with
  | 0,_=>exact ⟨_,_,va,rfl,by simp,ha.kept ((gO.refl _).alloc _)⟩
  | 1,_=>exact ⟨_,_,vb,rfl,by simp,hb.kept ((gO.refl _).alloc _)⟩⟩
theorem Ev {s:Int} (h:0<=s/\s<=16777215) (w:World):Calls Tryz.prog 217 #[.int .i64 s] w fun e w'=>e=.returned (.bool true)/\w=w':=by
 have:=rT s w
 rwa [decide_eq_true h] at this
def rv (xss:List (List Int)):Nat:=if xss.all (fun xs=>decide (xs.length<=1024)) then 0 else 4
theorem Dn (v:Value) (xss:List (List Int)) (w:World) (hv:oA gU w v xss) (hx:∀ xs∈xss,∀ x∈xs,0<=x/\x<=16777215) :
  Calls Tryz.prog 152 #[v] w fun e w'=>e=.returned (iV (rv xss))/\gO w w':=by
 obtain ⟨a,c,rfl,⟨hc,_⟩,hl,ah⟩:=hv;obtain ⟨n,hn⟩:∃ n,n=xss.length:=⟨_,rfl⟩;rw [<-hn];have aH:n<=140737488355328:=by omega
 have HX:=af hx;have HR:=af ah;have HN:=af hn;clear hx ah hn hc hl;go_enter Tryz.func152,Tryz.ntmps152;go_wp2;go_loopw [4,6,9,19] (fun _ _ i _ wr=>∃ k:Nat,k<=n/\i=.int .i64 k/\Hid (∀ xs∈xss.take k,xs.length<=1024)/\gO w wr) (fun _ _ i _ _=>n - (intOf i).toNat)
 case atStart=>exact ⟨0,Nat.zero_le _,rfl,af (by simp),gO.refl _⟩
 case round =>
  obtain ⟨k,hk,rfl,HF,hK⟩:=hrel;by_cases aI:k<n
  ·have aq:k<xss.length:=by have:=HN.out;omega
   obtain ⟨b,o,u,rfl,ar,hI⟩:=HR.out k aq;have ai:=hK.cell ar;have aw:=hI.kept hK;obtain ⟨xs,al⟩:∃ x,x=xss[k]:=⟨_,rfl⟩;rw [<-al] at hI aw;have aj:=HX.out xs (by rw [al];exact List.getElem_mem _);obtain ⟨ax,cx,rfl,_,aC,ay⟩:=hI;obtain ⟨m,hm⟩:∃ m,m=xs.length:=⟨_,rfl⟩;rw [<-hm] at ai;have aJ:m<=140737488355328:=by omega
   have HV:=af aj;have aD:=af ay;have HM:=af hm;have az:=af al;clear ar aj ay hm al aw aC;by_cases am:m<=1024
   ·go_wp2;obtain ⟨wo,aA⟩:∃ wo:World,wo=wr:=⟨_,rfl⟩;rw [<-aA] at hK;go_loopw [6,19] (fun _ j wi=>∃ q:Nat,q<=m/\j=.int .i64 q/\gO w wi) (fun _ j _=>m - (intOf j).toNat)
    case atStart=>exact ⟨0,Nat.zero_le _,rfl,by rw [<-aA];exact hK⟩
    case round =>
     obtain ⟨q,hq,rfl,ap⟩:=hrel;by_cases aK:q<m
     ·have aF:q<xs.length:=by have:=HM.out;omega
      obtain ⟨b2,o2,rfl,hc2⟩:=aD.out q aF;have ag:=ap.cell hc2;obtain ⟨s,hs⟩:∃ s,s=xs[q]:=⟨_,rfl⟩;rw [<-hs] at ag;have aB:0<=s/\s<=16777215:=HV.out s (by rw [hs];exact List.getElem_mem _);have aG:=af aB;clear hc2 hs aB;go_wp2_with (go_at_call 217;refine (Ev aG.out _).mono ?_;rintro e w' ⟨rfl,rfl⟩);go_roundw
      case rel=>exact ⟨q+1,by omega,by go_num,ap⟩
      case measure=>simp [intOf];omega
     ·go_wp2;go_roundw
      case rel =>
       refine ⟨k+1,by omega,by go_num,af ?_,ap⟩;intro ys hy;rw [List.take_succ_eq_append_getElem aq] at hy;rcases List.mem_append.1 hy with hy | hy
       ·exact HF.out ys hy
       ·simp at hy;rw [hy,<-az.out,<-HM.out];exact am
      case measure=>simp [intOf];omega
   ·go_wp2;go_ret;refine ⟨?_,hK⟩
    have:rv xss=4:=by
     unfold rv;rw [if_neg];intro h;have:=List.all_eq_true.1 h xs (by rw [az.out];exact List.getElem_mem _);simp at this;have:=HM.out;omega
    rw [this];rfl
  ·go_wp2;go_ret;refine ⟨?_,hK⟩;have hh:=HF.out;rw [List.take_of_length_le (by have:=HN.out;omega)] at hh
   have:rv xss=0:=by
    unfold rv;rw [if_pos];rw [List.all_eq_true];intro ys hy;exact decide_eq_true (hh ys hy)
   rw [this];rfl
theorem Db (w:World):Calls Tryz.prog 263 #[.slice none 0 0,.int .i64 0] w fun e w'=>e=.returned (.slice none 0 0)/\w=w':=by
 go_enter Tryz.func263,Tryz.ntmps263;go_wp2;go_ret;exact ⟨rfl,rfl⟩
theorem Da (n:Nat) (h0:0<n) (hn:n<=17592186044416) (w:World):Calls Tryz.prog 263 #[.slice none 0 0,.int .i64 n] w fun e w'=>∃ v,e=.returned v/\OwnInts w' w.heap.size v []/\gO w w':=by
 obtain ⟨i0,al,am,aq,aj⟩:=info_parts lS;have h1:¬ ((n:Int)<0):=by omega
 have h3:wrap64 ((n:Int) - ((0:Int) - (0:Int)))=n:=by unfold wrap64;omega
 have h4:(n:Int) > 0:=by omega
 have hold:(Builtin.firstCells i0.size 0 (.slice none 0 0)).run Tryz.prog w.drew=.ok (([]:List Value).toArray) w.drew:=run_firstCells_none w.drew i0.size 0 0 0
 have ah:∀ ty,(Builtin.append_ #[22,3] ty #[.slice none 0 0,.int .i64 (n:Int)]).run Tryz.prog w =
   .ok (.slice (some ⟨w.heap.size,0,none⟩) n (grownCap w n 0 3)) (w.drew.alloc (.cells (([]:List Value).toArray++Builtin.zeroCells (Value.int .i64 0).cells n++Builtin.zeroCells (Value.int .i64 0).cells (grownCap w n 0 3 - n)) 3)):=fun ty=>by
  have h:=Lib.run_append_grow_zeros (P:=Tryz.prog) w 22 3 ty 3 i0 _ .i64 .i64 Tryz.underlying22 Tryz.underlying3 al am none 0 0 [] hold n h0 (by omega) (by omega) (by omega)
   (by rw [aj];omega) (growslice_fits (by omega) (by rw [aj];omega))
  simpa using h
 have ap:n<=grownCap w n 0 3:=grownCap_ge w _ _ _;obtain ⟨G,hG⟩:∃ G,G=grownCap w n 0 3:=⟨_,rfl⟩;rw [<-hG] at ah ap
 have ai:G<=9223372036854775807:=by
  have:=grownCap_le_maxLen w n 0 3 (by unfold maxLen;omega);rw [<-hG] at this;unfold maxLen at this;omega
 clear hold hG;obtain ⟨cur,ag⟩:∃ cur,cur=(([]:List Value).toArray++Builtin.zeroCells (Value.int .i64 0).cells n++Builtin.zeroCells (Value.int .i64 0).cells (G - n)):=⟨_,rfl⟩;rw [<-ag] at ah;have hsz:cur.size=G:=by rw [ag];simp [Builtin.zeroCells,Value.cells];omega
 have HC:=af hsz;clear ag hsz;go_enter Tryz.func263,Tryz.ntmps263;go_wp2_with (at_builtin;refine Lib.wpList_append_run _ rfl _ _ _ _ rfl _ _ rfl rfl _ _ (ah _) ?_)
 all_goals
  go_ret;refine ⟨_,rfl,⟨?_,by simp⟩,((gO.refl _).drew).alloc _⟩;exact World.ownsRow_made w.drew cur G (base:=w.heap.size) (e:=3) (size:=1) (Nat.le_refl _) ai (by rw [HC.out];omega)
theorem tq (v:Value) (xss:List (List Int)) (w:World) (hv:oA gU w v xss) (ap:xss.flatten.length<=17592186044416) :
  Calls Tryz.prog 250 #[v] w fun e w'=>∃ v',e=.returned v'/\OwnInts w' w.heap.size v' xss.flatten/\gO w w':=by
 obtain ⟨a,c,rfl,⟨hc,_⟩,hl,aq⟩:=hv;obtain ⟨n,hn⟩:∃ n,n=xss.length:=⟨_,rfl⟩;rw [<-hn];have aR:n<=140737488355328:=by omega
 have ar:∀ k,(xss.take k).flatten.length<=xss.flatten.length:=fun k=>by
  have h1:=List.take_append_drop k xss;have h2:xss.flatten.length=(xss.take k).flatten.length+(xss.drop k).flatten.length:=by rw [<-List.length_append,<-List.flatten_append,h1]
  omega
 have ai:∀ k (h:k<xss.length),(xss.take (k+1)).flatten=(xss.take k).flatten++xss[k]:=fun k h=>by
  rw [List.take_succ_eq_append_getElem h,List.flatten_append];simp
 have HR:=af aq;have HN:=af hn;have HS:=af ar;have HT:=af ai;have HL:=af ap;clear aq hn hc hl ar ai ap;go_enter Tryz.func250,Tryz.ntmps250;go_wp2;go_loopw [3,5,11] (fun s _ i wr=>∃ k:Nat,k<=n/\i=.int .i64 k/\s=.int .i64 ((xss.take k).flatten.length:Nat)/\gO w wr) (fun _ _ i _=>n - (intOf i).toNat)
 case atStart=>exact ⟨0,Nat.zero_le _,rfl,rfl,gO.refl _⟩
 case round =>
  obtain ⟨k,hk,rfl,rfl,hK⟩:=hrel;have hb:=HS.out k;have aH:=HL.out;obtain ⟨t,ht⟩:∃ t,t=(xss.take k).flatten.length:=⟨_,rfl⟩;have aK:t<=17592186044416:=by omega
  rw [<-ht];by_cases aS:k<n
  ·have aw:k<xss.length:=by have:=HN.out;omega
   obtain ⟨b,o,u,rfl,ay,hI⟩:=HR.out k aw;have aj:=hK.cell ay;have ah:=HT.out k aw;have am:=HS.out (k+1);obtain ⟨xs,az⟩:∃ x,x=xss[k]:=⟨_,rfl⟩;rw [<-az] at hI ah;obtain ⟨ax,cx,rfl,_,aL,_⟩:=hI;obtain ⟨m,hm⟩:∃ m,m=xs.length:=⟨_,rfl⟩;rw [<-hm] at aj;have aA:t+m=(xss.take (k+1)).flatten.length:=by rw [ah,List.length_append];omega
   have aT:t+m<=17592186044416:=by omega
   have aF:=af aA;clear ay aL hm az ah am hb aH ht aA;go_wp2;go_roundw
   case rel=>exact ⟨k+1,by omega,by go_num,by rw [<-aF.out];go_num,hK⟩
   case measure=>simp [intOf];omega
  ·have e:k=n:=by omega
   have aI:t=xss.flatten.length:=by rw [ht,e,List.take_of_length_le (by have:=HN.out;omega)]
   have aU:=af aI;clear aI ht hb aH
   have al:Calls Tryz.prog 263 #[.slice none 0 0,.int .i64 t] wr fun e w'=>∃ v,e=.returned v/\OwnInts w' wr.heap.size v []/\gO wr w':=by
    by_cases h0:t=0
    ·subst h0;exact (Db wr).mono fun e w' ⟨h1,h2⟩=>⟨_,h1,OwnInts.nil _ _,by subst h2;exact gO.refl _⟩
    ·exact Da t (by omega) aK wr
   have HG:=af al;clear al;go_wp2_with (go_at_call 263;refine HG.out.mono ?_;rintro e w1 ⟨v1,rfl,aJ,aM⟩;have O1:=af aJ;clear aJ);have hz:=hK.size;have K1:gO w w1:=hK.trans aM;go_loopw [6,8,27] (fun v _ i wr=>∃ k:Nat,k<=n/\i=.int .i64 k/\OwnInts wr w.heap.size v (xss.take k).flatten/\gO w wr) (fun _ _ i _=>n - (intOf i).toNat)
   case atStart=>exact ⟨0,Nat.zero_le _,rfl,O1.out.mono hz,K1⟩
   case round =>
    obtain ⟨q,hq,rfl,ag,aB⟩:=hrel;have aN:=aB.size;by_cases aO:q<n
    ·have aw:q<xss.length:=by have:=HN.out;omega
     obtain ⟨b,o,u,rfl,ay,hI⟩:=HR.out q aw;have aj:=aB.cell ay;have aG:=hI.kept aB;have ah:=HT.out q aw;have am:=HS.out (q+1);have aP:=HL.out;obtain ⟨xs,az⟩:∃ x,x=xss[q]:=⟨_,rfl⟩;rw [<-az] at ah aG;obtain ⟨acc,aC⟩:∃ x,x=(xss.take q).flatten:=⟨_,rfl⟩;rw [<-aC] at ah ag;have hsz:acc.length+xs.length<=17592186044416:=by rw [ah,List.length_append] at am;omega
     have HO:=af ag;have aQ:=af ah;have HI:=af aG;clear ay hI ag ah aG az aC am aP;go_wp2_with (at_builtin;refine lR rfl _ _ rfl w.heap.size _ acc rfl HO.out _ xs rfl HI.out hsz aN ?_;intro v' w3 aD _ am);go_roundw
     case rel=>exact ⟨q+1,by omega,by go_num,by rw [aQ.out];exact aD,aB.app am⟩
     case measure=>simp [intOf];omega
    ·go_wp2;go_ret;have e:q=n:=by omega
     subst e;rw [List.take_of_length_le (by have:=HN.out;omega)] at ag;exact ⟨_,rfl,ag,aB⟩
theorem zG (v:Value) (xs:List Int) (w:World) (hv:gU w v xs) (h:xs.length<=1024):Calls Tryz.prog 249 #[v] w fun e w'=>e=.returned (.tuple #[v,.nilIface])/\w=w':=by
 obtain ⟨a,c,rfl,⟨hc,_⟩,hl,ag⟩:=hv;obtain ⟨n,hn⟩:∃ n,n=xs.length:=⟨_,rfl⟩;rw [<-hn] at h⊢;clear ag hn hl hc;go_enter Tryz.func249,Tryz.ntmps249;go_wp2;go_ret2;exact ⟨rfl,rfl⟩
theorem sH (v:Value) (xs:List Int) (w:World) (hv:gU w v xs) (h:¬ xs.length<=1024):Calls Tryz.prog 249 #[v] w fun e w'=>e=.returned (.tuple #[.slice none 0 0,iV 4])/\w=w':=by
 obtain ⟨a,c,rfl,⟨hc,_⟩,hl,ag⟩:=hv;obtain ⟨n,hn⟩:∃ n,n=xs.length:=⟨_,rfl⟩;rw [<-hn] at h⊢;clear ag hn hl hc;go_enter Tryz.func249,Tryz.ntmps249;go_wp2;go_ret2;exact ⟨rfl,rfl⟩
theorem vT {ns:List Nat} (h:∀ n∈ns,Mk n):∀ x∈ib ns,0<=x/\x<=16777215:=by
 intro x hx;obtain ⟨n,hn,rfl⟩:=List.mem_map.1 hx;have:=h n hn;unfold Mk at this;omega
def gZ (w:World) (v:Value) (ns:List Nat):Prop:=gU w v (ib ns)/\∀ n∈ns,Mk n
theorem gZ.kept {w w':World} {v:Value} {ns:List Nat} (h:gZ w v ns) (hk:gO w w'):gZ w' v ns:=⟨h.1.kept hk,h.2⟩
def hC (w:World) (B:Nat) (v:Value) (ns:List Nat):Prop:=OwnInts w B v (ib ns)/\∀ n∈ns,Mk n
theorem hC.sets {w:World} {B:Nat} {v:Value} {ns:List Nat} (h:hC w B v ns):gZ w v ns:=⟨h.1.ints,h.2⟩
theorem hC.kept {w w':World} {B:Nat} {v:Value} {ns:List Nat} (h:hC w B v ns) (hk:gO w w'):hC w' B v ns:=⟨h.1.kept hk,h.2⟩
theorem hC.mono {w:World} {B B':Nat} {v:Value} {ns:List Nat} (h:hC w B v ns) (hb:B'<=B):hC w B' v ns:=⟨h.1.mono hb,h.2⟩
theorem hC.nil (w:World) (B:Nat):hC w B (.slice none 0 0) []:=⟨OwnInts.nil _ _,by simp⟩
theorem xe {ns:List Nat} (h:∀ n∈ns,Mk n):∀ n∈iy ns,Mk n:=fun n hn=>h n (nx hn)
theorem kI (v:Value) (ns:List Nat) (w:World) (hv:gZ w v ns) (hl:ns.length<=8796093022208) :
  Calls Tryz.prog 155 #[v] w fun e w'=>∃ v',e=.returned v'/\hC w' w.heap.size v' (iy ns)/\gO w w' :=
 (xf v ns w hv.2 hv.1 hl).mono fun _ _ ⟨v',h1,h2,h3⟩=>⟨v',h1,⟨h2,xe hv.2⟩,h3⟩
theorem Fw (a b:List Nat) (va vb:Value) (w:World) (ha:gZ w va a) (hb:gZ w vb b) :
  Calls Tryz.prog 152 #[.slice (some ⟨w.heap.size,0,none⟩) 2 2] (w.alloc (.cells #[va,vb] 22)) fun e w'=>e=.returned (iV (if a.length<=1024/\b.length<=1024 then 0 else 4))/\gO w w':=by
 refine (Dn _ [ib a,ib b] _ (uC ha.1 hb.1) ?_).mono fun e w' ⟨h1,h2⟩=>⟨?_,((gO.refl _).alloc _).trans h2⟩
 ·intro xs ag;simp at ag;rcases ag with rfl | rfl
  ·exact vT ha.2
  ·exact vT hb.2
 ·rw [h1];congr 2;unfold rv;simp
def kP (w':World) (B:Nat) (e:Ending) (r:Option (List Nat)):Prop :=
 match r with
 | some l=>∃ v,e=.returned (.tuple #[v,.nilIface])/\hC w' B v l
 | none=>e=.returned (.tuple #[.slice none 0 0,iV 4])
def iN (a b:List Nat):Option (List Nat):=if a.length<=1024/\b.length<=1024 then (if (iy (a++b)).length<=1024 then some (iy (a++b)) else none) else none
theorem yZ (a b:List Nat) (va vb:Value) (w:World) (ha:gZ w va a) (hb:gZ w vb b) :
  Calls Tryz.prog 205 #[va,vb] w fun e w'=>kP w' w.heap.size e (iN a b)/\gO w w':=by
 obtain ⟨aa,na,ca,rfl⟩:=ha.1.shape;obtain ⟨ab,nb,cb,rfl⟩:=hb.1.shape;have H1:=af (fun w' (hk:gO w w')=>Fw a b _ _ w' (ha.kept hk) (hb.kept hk));have HA:=af ha;have HB:=af hb;clear ha hb;unfold iN;by_cases h:a.length<=1024/\b.length<=1024
 ·have ag:([ib a,ib b]:List (List Int)).flatten=ib (a++b):=by simp
  have aq:([ib a,ib b]:List (List Int)).flatten.length<=17592186044416:=by rw [ag];simp;omega
  have aj:(a++b).length<=8796093022208:=by simp;omega
  have HF:=af ag;have ar:=af aq;have aw:=af aj;have E0:=af (show iV (if a.length<=1024/\b.length<=1024 then 0 else 4)=.nilIface by rw [if_pos h];rfl);rw [if_pos h];clear ag aq aj h;by_cases hm:(iy (a++b)).length<=1024
  ·have HM:=af (show (ib (iy (a++b))).length<=1024 by simpa using hm);rw [if_pos hm];clear hm;go_enter Tryz.func205,Tryz.ntmps205
   go_wp2_with (first
    | (go_at_call 152;refine (H1.out _ (gO.refl _)).mono ?_;rintro e w1 ⟨rfl,ah⟩;rw [E0.out])
    | (go_at_call 250;refine (tq _ [ib a,ib b] _ (uC (HA.out.kept ah).1 (HB.out.kept ah).1) ar.out).mono ?_;rintro e w2 ⟨v2,rfl,ai,am⟩;rw [HF.out] at ai;have O2:=af ai;clear ai)
    | (go_at_call 155;refine (kI v2 (a++b) w2 ⟨O2.out.ints,fun n hn=>(List.mem_append.1 hn).elim (HA.out.2 n) (HB.out.2 n)⟩ aw.out).mono ?_;rintro e w3 ⟨v3,rfl,al,ap⟩;have O3:=af al;clear al)
    | (go_at_call 249;refine (zG v3 _ w3 O3.out.1.ints HM.out).mono ?_;rintro e w4 ⟨rfl,rfl⟩))
   go_ret2;have hk:=((ah.trans ((gO.refl _).alloc _)).trans am);exact ⟨⟨_,rfl,O3.out.mono hk.size⟩,hk.trans ap⟩
  ·have HM:=af (show ¬ (ib (iy (a++b))).length<=1024 by simpa using hm);rw [if_neg hm];clear hm;go_enter Tryz.func205,Tryz.ntmps205
   go_wp2_with (first
    | (go_at_call 152;refine (H1.out _ (gO.refl _)).mono ?_;rintro e w1 ⟨rfl,ah⟩;rw [E0.out])
    | (go_at_call 250;refine (tq _ [ib a,ib b] _ (uC (HA.out.kept ah).1 (HB.out.kept ah).1) ar.out).mono ?_;rintro e w2 ⟨v2,rfl,ai,am⟩;rw [HF.out] at ai;have O2:=af ai;clear ai)
    | (go_at_call 155;refine (kI v2 (a++b) w2 ⟨O2.out.ints,fun n hn=>(List.mem_append.1 hn).elim (HA.out.2 n) (HB.out.2 n)⟩ aw.out).mono ?_;rintro e w3 ⟨v3,rfl,al,ap⟩;have O3:=af al;clear al)
    | (go_at_call 249;refine (sH v3 _ w3 O3.out.1.ints HM.out).mono ?_;rintro e w4 ⟨rfl,rfl⟩))
   go_ret2;have hk:=((ah.trans ((gO.refl _).alloc _)).trans am);exact ⟨rfl,hk.trans ap⟩
 ·have E0:=af (show iV (if a.length<=1024/\b.length<=1024 then 0 else 4)=.iface 60 (.int .i64 4) by rw [if_neg h];rfl);rw [if_neg h];clear h;go_enter Tryz.func205,Tryz.ntmps205;go_wp2_with (go_at_call 152;refine (H1.out _ (gO.refl _)).mono ?_;rintro e w1 ⟨rfl,ah⟩;rw [E0.out]);go_ret2;exact ⟨rfl,ah⟩
section
open Go.RowKit Go.Maps
def jW (w:World) (b n:Nat) (mem:Int->Bool):Prop :=
 ∃ D:DataW Unit,w.ownsMap Tryz.prog 3 (plainElem Tryz.prog 4) b n D/\IsMap D/\∀ x:Int,D.atKey (.int .i64 x) (.lit (.bool false))=.lit (.bool (mem x))
theorem jW.made (w:World):jW (w.alloc (.map #[] 0)) w.heap.size 0 (fun _=>false) :=
 ⟨_,World.ownsMap_made _ _ _ _,⟨_,rfl⟩,fun _=>rfl⟩
theorem jW.kept {w w':World} {b n:Nat} {mem:Int->Bool} (h:jW w b n mem) (hb:w'.heap[b]?=w.heap[b]?):jW w' b n mem:=by
 obtain ⟨D,⟨es,cl,h1,h2⟩,h3⟩:=h;exact ⟨D,⟨es,cl,hb.trans h1,h2⟩,h3⟩
theorem jW.lt {w:World} {b n:Nat} {mem:Int->Bool} (h:jW w b n mem):b<w.heap.size:=by
 obtain ⟨D,h1,_⟩:=h;exact h1.lt
theorem G' {n:Nat} (h:Mk n):(Lit.int .i64 (n:Int)).wf=true:=by
 unfold Mk at h;simp [Lit.wf,IntKind.min,IntKind.max,IntKind.signed,IntKind.bits];omega
theorem EN {P:Program} {e:TypeId} (he:P.underlying e=some .bool) {v:Value} {x:Bool} {ps:List MemPlace} (h:plainElem (H:=Unit) P e v=some (.lit (.bool x),ps)):v=.bool x:=by
 cases v <;> simp [plainElem,he] at h;rw [h.1]
variable {ops:Array Oper} {rest:List Oper} {o:Oper} {a:Act} {Q:Exit->Act->World->Prop} {w:World}
theorem vO (t:TypeId) (ht:Tryz.prog.underlying t=some (.map 3 4)) (hg:o.guard=none) (m x:Operand) (ai:o.op=Op.lookup t m x false) (b n:Nat) (mem:Int->Bool)
  (hm:a.eval m=.map (some b)) (ag:jW w b n mem) (k:Int) (hx:a.eval x=.int .i64 k) (hk:(Lit.int .i64 k).wf=true)
  (hK:wpList Tryz.prog ops Q rest (a.put o.dst (.bool (mem k))) w):wpList Tryz.prog ops Q (o :: rest) a w:=by
 obtain ⟨D,h1,h2,h3⟩:=ag;refine wpList_plain hg fun K' hK'=>?_
 have hz:(zeroValue 4).run Tryz.prog w=.ok (.bool false) w:=by kernel_rfl
 obtain ⟨v,ps,ah,hv⟩:=h1.lookup (int_keyed Tryz.underlying3) ht hz (plainElem_bool (H:=Unit) Tryz.underlying4 false) (keyOf_int_mk Tryz.underlying3 hk);rw [h3 k] at hv
 have aj:v=.bool (mem k):=by
  exact EN Tryz.underlying4 hv
 subst aj;unfold Oper.wp;simp [execOp,ai,hm,hx,ah,Result.andThen];exact hK' _ _ hK
theorem BB (t:TypeId) (ht:Tryz.prog.underlying t=some (.map 3 4)) (hg:o.guard=none) (m x v:Operand) (ah:o.op=Op.mapUpdate t m x v) (b n:Nat) (mem:Int->Bool)
  (hm:a.eval m=.map (some b)) (ag:jW w b n mem) (hn:n<maxLen) (k:Int) (hx:a.eval x=.int .i64 k) (hk:(Lit.int .i64 k).wf=true) (c:Bool) (hv:a.eval v=.bool c)
  (hK:∀ w',jW w' b (n+1) (fun y=>if y=k then c else mem y)->w.grownBy w' (some b)->wpList Tryz.prog ops Q rest (a.put o.dst undef) w'):wpList Tryz.prog ops Q (o :: rest) a w:=by
 obtain ⟨D,h1,h2,h3⟩:=ag;refine wpList_mapUpdate_own w hg m x v t ah 3 4 (int_keyed Tryz.underlying3) ht _ b n D hm h1 hn _ _ _ hx hv (keyOf_int_mk Tryz.underlying3 hk) (.lit (.bool c)) [] (plainElem_bool Tryz.underlying4 c) ?_;intro w' h4 h5;refine hK w' ⟨_,h4,?_,fun y=>?_⟩ h5
 ·obtain ⟨es,rfl⟩:=h2;exact ⟨_,rfl⟩
 ·by_cases e:y=k
  ·subst e;rw [atKey_put_same (k:=.int .i64 y) h2 (by simp [WideAt.IsKeyLit])];simp
  ·rw [atKey_put_other (by intro h;simp at h;exact e h),h3 y];simp [e]
def sQ (out:List Nat) (u:Nat):List Nat:=if u∈out then out else out++[u]
def l_ (x:Nat) (ys:List Nat) (out:List Nat):List Nat:=ys.foldl (fun out y=>sQ out (x ||| y)) out
def oC (xs ys:List Nat):List Nat:=xs.foldl (fun out x=>l_ x ys out) []
theorem Fx (out:List Nat) (u z:Nat):z∈sQ out u ↔ z∈out\/z=u:=by
 unfold sQ;split
 ·constructor
  ·exact .inl
  ·rintro (h | rfl)
   ·exact h
   ·assumption
 ·simp
theorem Fz (x:Nat) (ys:List Nat):∀ out z,z∈l_ x ys out ↔ z∈out\/∃ y∈ys,z=x ||| y:=by
 induction ys with
 | nil=>intro out z;simp [l_]
 | cons y ys ih =>
  intro out z;show z∈l_ x ys (sQ out (x ||| y)) ↔ _;rw [ih,Fx];simp only [List.mem_cons,exists_eq_or_imp,or_assoc]
theorem xd (ys:List Nat) (xs:List Nat):∀ out z,z∈xs.foldl (fun out x=>l_ x ys out) out ↔ z∈out\/∃ x∈xs,∃ y∈ys,z=x ||| y:=by
 induction xs with
 | nil=>intro out z;simp
 | cons x xs ih =>
  intro out z;rw [List.foldl_cons,ih,Fz];simp only [List.mem_cons,exists_eq_or_imp,or_assoc]
theorem oM (xs ys:List Nat) (z:Nat):z∈oC xs ys ↔ ∃ x∈xs,∃ y∈ys,z=x ||| y:=by
 unfold oC;rw [xd];simp
theorem yG (x:Nat) (ys:List Nat):∀ out,(l_ x ys out).length<=out.length+ys.length:=by
 induction ys with
 | nil=>intro out;simp [l_]
 | cons y ys ih =>
  intro out;show (l_ x ys (sQ out (x ||| y))).length<=_;refine Nat.le_trans (ih _) ?_;unfold sQ;split <;> simp <;> omega
theorem qL (ys:List Nat) (xs:List Nat):∀ out,(xs.foldl (fun out x=>l_ x ys out) out).length<=out.length+xs.length*ys.length:=by
 induction xs with
 | nil=>intro out;simp
 | cons x xs ih =>
  intro out;have h1:=ih (l_ x ys out);have h2:=yG x ys out;rw [List.foldl_cons,List.length_cons,Nat.succ_mul];omega
theorem FO {a b:Nat} (ha:Mk a) (hb:Mk b):Mk (a ||| b):=by
 unfold Mk at *;exact Nat.or_lt_two_pow (n:=24) ha hb
theorem FN {a b:Nat} (ha:Mk a) (hb:Mk b):bits .or .i64 (a:Int) (b:Int)=((a ||| b:Nat):Int):=AV a b (by unfold Mk at ha;omega) (by unfold Mk at hb;omega)
end
section
open Go.RowKit Go.Maps
theorem jW.ne {w:World} {b n:Nat} {mem:Int->Bool} (h:jW w b n mem) {B:Nat} {e:TypeId} {size m:Nat} {v:Value} {xs:List Value} (ho:w.ownsRow B e size v m xs):some b≠v.ownBlock:=by
 obtain ⟨D,⟨es,cl,h1,_⟩,_⟩:=h;obtain ⟨_,⟨rfl,_⟩ | ⟨g,cap,cur,rfl,_,hh,_⟩⟩:=ho
 ·intro h;cases h
 ·intro h;cases h;rw [hh] at h1;cases h1
theorem JB {w w':World} {B:Nat} {v:Value} {xs:List Int} {b:Nat} (h:OwnInts w B v xs) (hg:w.grownBy w' (some b)) (ag:some b≠v.ownBlock):OwnInts w' B v xs:=by
 obtain ⟨⟨h1,h2⟩,h3⟩:=h;refine ⟨⟨h1,h2.imp id ?_⟩,h3⟩;rintro ⟨g,cap,cur,rfl,h5,h6,h7⟩;exact ⟨g,cap,cur,rfl,h5,(hg.block g (mN h6) (fun e=>ag e.symm)).trans h6,h7⟩
theorem HJ {w0 w w':World} {b:Nat} (h:gO w0 w) (hg:w.grownBy w' (some b)) (hb:w0.heap.size<=b):gO w0 w' :=
 h.app ⟨hg.os,hg.tape,hg.output,hg.size,fun k hk=>hg.block k (Nat.lt_of_lt_of_le hk h.size) (by intro e;cases e;omega)⟩
theorem Cq (u:Nat) (l:List Nat):(u:Int)∈ib l ↔ u∈l:=by
 simp only [ib,List.mem_map];constructor
 ·rintro ⟨x,hx,e⟩;have:x=u:=by omega
  rw [<-this];exact hx
 ·intro h;exact ⟨u,h,rfl⟩
def oT (wm wr:World) (v:Value) (acc:List Nat):Prop :=
 OwnInts wr wm.heap.size v (ib acc)/\jW wr wm.heap.size acc.length (fun z=>decide (z∈ib acc))/\gO wm wr
theorem Gh {wm wr:World} {v:Value} {acc:List Nat} (h:oT wm wr v acc) {u:Nat} (hu:u∈acc):oT wm wr v (sQ acc u):=by
 unfold sQ;rw [if_pos hu];exact h
theorem Gi {wm wr w1 w2 w3:World} {v v':Value} {acc:List Nat} {u:Nat} (h:oT wm wr v acc) (hu:u ∉ acc)
  (h1:jW w1 wm.heap.size (acc.length+1) (fun y=>if y=(u:Int) then true else decide (y∈ib acc))) (ag:wr.grownBy w1 (some wm.heap.size))
  (h2:w2=w1.alloc (.cells #[.int .i64 u] 3)) (h3:OwnInts w3 wm.heap.size v' (ib acc++[(u:Int)])) (ah:w2.grownBy w3 v.ownBlock) (ai:Below wm.heap.size w2 w3):oT wm w3 v' (sQ acc u):=by
 unfold sQ;rw [if_neg hu];subst h2;have aj:=h1.lt;refine ⟨by simpa using h3,?_,?_⟩
 ·have al:(w1.alloc (.cells #[.int .i64 u] 3)).heap[wm.heap.size]?=w1.heap[wm.heap.size]?:=Below.heap_alloc _ _ _ aj;have am:=ah.block wm.heap.size (by simp;omega) (h.2.1.ne h.1.1);have h4:=h1.kept (am.trans al)
  have e:(fun y:Int=>if y=(u:Int) then true else decide (y∈ib acc))=fun z=>decide (z∈ib (acc++[u])):=by
   funext y;by_cases hy:y=(u:Int)
   ·subst hy;simp
   ·rw [if_neg hy];congr 1;simp only [List.map_append,List.mem_append,List.map_cons,List.map_nil,List.mem_singleton,hy,or_false]
  rw [e] at h4;simpa using h4
 ·exact ((HJ h.2.2 ag (Nat.le_refl _)).alloc _).app ai
def h_ (a b:List Nat):Option (List Nat):=if a.length<=1024/\b.length<=1024 then (if (iy (oC (iy a) (iy b))).length<=1024 then some (iy (oC (iy a) (iy b))) else none) else none
theorem Hd {xs ys:List Nat} (hx:∀ n∈xs,Mk n) (hy:∀ n∈ys,Mk n):∀ n∈oC xs ys,Mk n:=by
 intro n hn;obtain ⟨x,h1,y,h2,rfl⟩:=(oM xs ys n).1 hn;exact FO (hx x h1) (hy y h2)
theorem sx (a b:List Nat) (va vb:Value) (w:World) (ha:gZ w va a) (hb:gZ w vb b) :
  Calls Tryz.prog 204 #[va,vb] w fun e w'=>kP w' w.heap.size e (h_ a b)/\gO w w':=by
 obtain ⟨aa,na,ca,rfl⟩:=ha.1.shape;obtain ⟨ab,nb,cb,rfl⟩:=hb.1.shape;have H1:=af (fun w' (hk:gO w w')=>Fw a b _ _ w' (ha.kept hk) (hb.kept hk));have HA:=af ha;have HB:=af hb;clear ha hb;unfold h_;by_cases h:a.length<=1024/\b.length<=1024
 ·have E0:=af (show iV (if a.length<=1024/\b.length<=1024 then 0 else 4)=.nilIface by rw [if_pos h];rfl);rw [if_pos h];have bl:=yF a;have bo:=yF b;have ap:a.length<=8796093022208:=by omega
  have aU:b.length<=8796093022208:=by omega
  have bp:=af ap;have bq:=af aU;obtain ⟨n,hn⟩:∃ n,n=(iy a).length:=⟨_,rfl⟩;obtain ⟨m,hm⟩:∃ m,m=(iy b).length:=⟨_,rfl⟩;have bE:n<=1024:=by omega
  have bF:m<=1024:=by omega
  have HN:=af hn;have HM:=af hm;have aH:=af (xe HA.out.2);have aI:=af (xe HB.out.2);obtain ⟨A,hA⟩:∃ A,A=iy a:=⟨_,rfl⟩;obtain ⟨Bs,hB⟩:∃ A,A=iy b:=⟨_,rfl⟩;rw [<-hA] at HN aH⊢;rw [<-hB] at HM aI⊢;have br:=af hA;have bt:=af hB;clear h bl bo ap aU hn hm hA hB;go_enter Tryz.func204,Tryz.ntmps204;have bG:=@run_makeMap Tryz.prog
  go_wp2_with (first
   | (go_at_call 152;refine (H1.out _ (gO.refl _)).mono ?_;rintro e w1 ⟨rfl,aw⟩;rw [E0.out];have tok1:True:=trivial)
   | (go_at_call 155;clear tok1;refine (kI _ a _ (HA.out.kept aw) bp.out).mono ?_;rintro e w2 ⟨v2,rfl,aV,aW⟩;have O2:=af aV;clear aV)
   | (go_at_call 155;refine (kI _ b _ (HB.out.kept (aw.trans aW)) bq.out).mono ?_;rintro e w3 ⟨v3,rfl,aX,aY⟩;have O3:=af aX;clear aX;rw [<-br.out] at O2;rw [<-bt.out] at O3;obtain ⟨a2,c2,rfl,_,_,hc2⟩:=O2.out.1.ints;obtain ⟨a3,c3,rfl,_,_,aZ⟩:=O3.out.1.ints;have C2:=af hc2;have C3:=af aZ;clear hc2 aZ O2 O3;rw [show (ib A).length=n by rw [HN.out];simp,show (ib Bs).length=m by rw [HM.out];simp]))
  have aJ:=(aw.trans aW).trans aY;go_loopw [8,10,12,13,28,34] (fun v _ _ _ i _ wr=>∃ k:Nat,k<=n/\i=.int .i64 k/\oT w3 wr v ((A.take k).foldl (fun out x=>l_ x Bs out) [])) (fun _ _ _ _ i _ _=>n - (intOf i).toNat)
  case atStart=>exact ⟨0,Nat.zero_le _,rfl,OwnInts.nil _ _,by simpa using jW.made w3,(gO.refl _).alloc _⟩
  case round =>
   obtain ⟨k,hk,rfl,ag⟩:=hrel;by_cases bH:k<n
   ·have a_:k<A.length:=by have:=HN.out;omega
    obtain ⟨b2,o2,rfl,ay⟩:=C2.out k (by simpa using a_);have ai:=(aY.trans ag.2.2).cell ay;obtain ⟨x,hx⟩:∃ x,x=A[k]:=⟨_,rfl⟩;have bd:Mk x:=aH.out x (by rw [hx];exact List.getElem_mem _);simp only [List.getElem_map] at ai;rw [<-hx] at ai
    have ah:(A.take (k+1)).foldl (fun out x=>l_ x Bs out) []=l_ x Bs ((A.take k).foldl (fun out x=>l_ x Bs out) []):=by
     rw [List.take_succ_eq_append_getElem a_,List.foldl_append,<-hx];rfl
    have aj:=qL Bs (A.take k) [];obtain ⟨acc,az⟩:∃ acc,acc=(A.take k).foldl (fun out x=>l_ x Bs out) []:=⟨_,rfl⟩;rw [<-az] at ag ah aj
    have ap:acc.length<=1048576:=by
     have h1:(A.take k).length<=1024:=by simp;omega
     have h2:Bs.length<=1024:=by have:=HM.out;omega
     have h3:=Nat.mul_le_mul h1 h2;simp at aj h3;omega
    have bw:=af ah;have bf:=af bd;have HI:=af ag;have aK:=af ap;clear ah bd ag hx az aj ap ay;go_wp2;obtain ⟨wo,bh⟩:∃ wo:World,wo=wr:=⟨_,rfl⟩;rw [<-bh] at HI ai;clear ai;go_loopw [8,12,13,34] (fun v _ _ j wi=>∃ q:Nat,q<=m/\j=.int .i64 q/\oT w3 wi v (l_ x (Bs.take q) acc)) (fun _ _ _ j _=>m - (intOf j).toNat)
    case atStart=>exact ⟨0,Nat.zero_le _,rfl,by rw [<-bh];exact HI.out⟩
    case round =>
     obtain ⟨q,hq,rfl,ag⟩:=hrel;by_cases bI:q<m
     ·have bi:q<Bs.length:=by have:=HM.out;omega
      obtain ⟨b3,o3,rfl,ay⟩:=C3.out q (by simpa using bi);have ai:=ag.2.2.cell ay;obtain ⟨y,hy⟩:∃ y,y=Bs[q]:=⟨_,rfl⟩;have aL:Mk y:=aI.out y (by rw [hy];exact List.getElem_mem _);simp only [List.getElem_map] at ai;rw [<-hy] at ai
      have ah:l_ x (Bs.take (q+1)) acc=sQ (l_ x (Bs.take q) acc) (x ||| y):=by
       unfold l_;rw [List.take_succ_eq_append_getElem bi,List.foldl_append,<-hy];rfl
      have aj:=yG x (Bs.take q) acc;have aM:=FN bf.out aL;have aN:=FO bf.out aL;obtain ⟨u,hu⟩:∃ u,u=x ||| y:=⟨_,rfl⟩
      rw [<-hu] at ah aM aN;obtain ⟨ac2,aA⟩:∃ ac,ac=l_ x (Bs.take q) acc:=⟨_,rfl⟩;rw [<-aA] at ag ah aj;have ap:ac2.length<=2097152:=by have:=aK.out;simp at aj;omega
      have hsz:=ag.2.2.size;have aB:=af ah;have aO:=af aN;have aq:=af ag;clear ah aL ag hy aA aj ay hu aN;by_cases ar:u∈ac2
      ·have al:decide ((u:Int)∈ib ac2)=true:=decide_eq_true ((Cq u ac2).2 ar);have HD:=af al;have aP:=af ar;clear al ar;go_wp2_with (at_lookup;refine vO 239 Tryz.underlying239 rfl _ _ rfl w3.heap.size _ _ rfl aq.out.2.1 (u:Int) rfl (G' aO.out) ?_;rw [HD.out]);go_roundw
       case rel=>exact ⟨q+1,by omega,by go_num,by rw [aB.out];exact Gh aq.out aP.out⟩
       case measure=>simp [intOf];omega
      ·have al:decide ((u:Int)∈ib ac2)=false:=decide_eq_false fun h=>ar ((Cq u ac2).1 h)
       have HD:=af al;have aP:=af ar;clear al ar
       go_wp2_with (first
        | (at_lookup;refine vO 239 Tryz.underlying239 rfl _ _ rfl w3.heap.size _ _ rfl aq.out.2.1 (u:Int) rfl (G' aO.out) ?_;rw [HD.out])
        | (at_mapUpdate;refine BB 239 Tryz.underlying239 rfl _ _ _ rfl w3.heap.size _ _ rfl aq.out.2.1 (by unfold maxLen;omega) (u:Int) rfl (G' aO.out) true rfl ?_;intro w5 bj aQ;have bk:=JB aq.out.1 aQ (aq.out.2.1.ne aq.out.1.1);have bJ:=aQ.size;have bz:=af bj;have bA:=af bk;clear bj bk)
        | (at_builtin;refine kp rfl _ _ rfl w3.heap.size _ (ib ac2) rfl (bA.out.kept ((gO.refl _).alloc _)) _ (u:Int) rfl (by simp) (by simp;omega) (by simp;omega) ?_;intro v' w6 aC bB bC))
       go_roundw
       case rel=>exact ⟨q+1,by omega,by go_num,by rw [aB.out];exact Gi aq.out aP.out bz.out aQ rfl aC bB bC⟩
       case measure=>simp [intOf];omega
     ·have e:q=m:=by omega
      have am:l_ x (Bs.take q) acc=(A.take (k+1)).foldl (fun out x=>l_ x Bs out) []:=by
       rw [bw.out,e,List.take_of_length_le (by have:=HM.out;omega)]
      rw [am] at ag;have bD:=af ag;clear ag am e;go_wp2;go_roundw
      case rel=>exact ⟨k+1,by omega,by go_num,bD.out⟩
      case measure=>simp [intOf];omega
   ·have e:k=n:=by omega
    have am:(A.take k).foldl (fun out x=>l_ x Bs out) []=oC A Bs:=by
     rw [e,List.take_of_length_le (by have:=HN.out;omega)];rfl
    rw [am] at ag;have aj:=qL Bs A []
    have ap:(oC A Bs).length<=8796093022208:=by
     have h1:A.length<=1024:=by have:=HN.out;omega
     have h2:Bs.length<=1024:=by have:=HM.out;omega
     have h3:=Nat.mul_le_mul h1 h2;unfold oC;simp at aj h3;omega
    have aD:gZ wr u8 (oC A Bs):=⟨ag.1.ints,Hd aH.out aI.out⟩;have aF:=kI _ _ _ aD ap;have HS:=af aF;have hK:=aJ.trans ag.2.2;clear aF aD aj ap am ag e;by_cases hm:(iy (oC A Bs)).length<=1024
    ·have aR:=af (show (ib (iy (oC A Bs))).length<=1024 by simpa using hm);have aS:=af hm;clear hm
     go_wp2_with (first
      | (go_at_call 155;refine HS.out.mono ?_;rintro e w4 ⟨v4,rfl,aG,aT⟩;have O4:=af aG;clear aG)
      | (go_at_call 249;refine (zG v4 _ w4 O4.out.1.ints aR.out).mono ?_;rintro e w5 ⟨rfl,rfl⟩))
     go_ret2;try rw [if_pos aS.out]
     exact ⟨⟨_,rfl,O4.out.mono hK.size⟩,hK.trans aT⟩
    ·have aR:=af (show ¬ (ib (iy (oC A Bs))).length<=1024 by simpa using hm);have aS:=af hm;clear hm
     go_wp2_with (first
      | (go_at_call 155;refine HS.out.mono ?_;rintro e w4 ⟨v4,rfl,aG,aT⟩;have O4:=af aG;clear aG)
      | (go_at_call 249;refine (sH v4 _ w4 O4.out.1.ints aR.out).mono ?_;rintro e w5 ⟨rfl,rfl⟩))
     go_ret2;try rw [if_neg aS.out]
     exact ⟨rfl,hK.trans aT⟩
 ·have E0:=af (show iV (if a.length<=1024/\b.length<=1024 then 0 else 4)=.iface 60 (.int .i64 4) by rw [if_neg h];rfl);rw [if_neg h];clear h;go_enter Tryz.func204,Tryz.ntmps204;go_wp2_with (go_at_call 152;refine (H1.out _ (gO.refl _)).mono ?_;rintro e w1 ⟨rfl,aw⟩;rw [E0.out]);go_ret2;exact ⟨rfl,aw⟩
end
section
open Go.RowKit
def gS (w:World) (g:Nat) (e:TypeId) (xs:List Value):Prop :=
 ∃ cur,w.heap[g]?=some (.cells cur e (0,0))/\xs.length<=cur.size/\cur.toList.take xs.length=xs
theorem gS.made (w:World) (cs:Array Value) (e:TypeId):gS (w.alloc (.cells cs e)) w.heap.size e cs.toList :=
 ⟨cs,heap_alloc_new w _,by simp,List.take_of_length_le (by simp)⟩
theorem gS.lt {w:World} {g:Nat} {e:TypeId} {xs:List Value} (h:gS w g e xs):g<w.heap.size:=by
 obtain ⟨cur,h1,_⟩:=h;rcases Nat.lt_or_ge g w.heap.size with h2 | h2
 ·exact h2
 ·simp [Array.getElem?_eq_none h2] at h1
theorem gS.kept {w w':World} {g:Nat} {e:TypeId} {xs:List Value} (h:gS w g e xs) (hk:gO w w'):gS w' g e xs:=by
 have hl:=h.lt;obtain ⟨cur,h1,h2⟩:=h;exact ⟨cur,(hk.block g hl).trans h1,h2⟩
theorem gS.same {w w':World} {g:Nat} {e:TypeId} {xs:List Value} (h:gS w g e xs) (hk:w'.heap[g]?=w.heap[g]?):gS w' g e xs:=by
 obtain ⟨cur,h1,h2⟩:=h;exact ⟨cur,hk.trans h1,h2⟩
theorem gS.cell {w:World} {g:Nat} {e:TypeId} {xs:List Value} (h:gS w g e xs) {i:Nat} (hi:i<xs.length):w.cell? ⟨g,i,none⟩=some xs[i]:=by
 obtain ⟨cur,h1,h2,h3⟩:=h;have e1:(cur.toList.take xs.length)[i]?=xs[i]?:=by rw [h3]
 rw [List.getElem?_take_of_lt hi] at e1;simp only [World.cell?,h1];simpa [hi] using e1
theorem gS.free {w:World} {g:Nat} {e:TypeId} {xs:List Value} (h:gS w g e xs) (i:Nat):w.frozen? ⟨g,i,none⟩=false:=by
 obtain ⟨cur,h1,_⟩:=h;simp [World.frozen?,h1]
theorem gS.store {w:World} {g:Nat} {e:TypeId} {xs:List Value} (h:gS w g e xs) (i:Nat) (u:Value):gS (w.setCell ⟨g,i,none⟩ u) g e (xs.set i u):=by
 obtain ⟨cur,h1,h2,h3⟩:=h;refine ⟨cur.setIfInBounds i u,by simp [World.setCell,Array.getElem?_modify,h1],by simpa using h2,?_⟩;rw [List.length_set,Array.toList_setIfInBounds,List.take_set,h3]
theorem gO.store {w0 w:World} (h:gO w0 w) {g:Nat} (hg:w0.heap.size<=g) (i:Nat) (u:Value):gO w0 (w.setCell ⟨g,i,none⟩ u):=Below.setCell h hg u
theorem gS.other {w:World} {g:Nat} {e:TypeId} {xs:List Value} (h:gS w g e xs) {p:Nat} (hp:g≠p) (i:Nat) (u:Value):gS (w.setCell ⟨p,i,none⟩ u) g e xs :=
 h.same (Below.heap_setCell w ⟨p,i,none⟩ u g hp)
theorem pE {w:World} {a:Addr} {v:Value} (h:w.cell? a=some v) {p:Nat} (hp:a.block≠p) (i:Nat) (u:Value):(w.setCell ⟨p,i,none⟩ u).cell? a=some v :=
 (World.cell?_of_block (w:=w) (Below.heap_setCell w ⟨p,i,none⟩ u a.block hp)).trans h
theorem gS.ints {w:World} {g:Nat} {xs:List Int} {c:Nat} (h:gS w g 3 (xs.map (.int .i64))) (hc:xs.length<=c) (hl:xs.length<=140737488355328):gU w (.slice (some ⟨g,0,none⟩) xs.length c) xs :=
 ⟨_,c,rfl,⟨hc,fun h=>by cases h⟩,hl,fun i hi=>⟨g,0,rfl,by have:=h.cell (i:=i) (by simpa using hi);simpa using this⟩⟩
theorem tH (z:Value) (hz:z.cells=#[z]) (n:Nat):(madeCells z.cells (n*1)).toList=List.replicate n z:=by
 rw [hz];unfold madeCells;apply List.ext_getElem
 ·simp
 ·intro i h1 h2;simp [Nat.mod_one]
theorem vH:(Tryz.prog.info? 4).map (fun i=>(i.zero,i.size,i.bytes))=some (some (.bool false),1,1):=by kernel_rfl
variable {ops:Array Oper} {rest:List Oper} {o:Oper} {a:Act} {Q:Exit->Act->World->Prop} {w:World}
theorem kg (t e:TypeId) (z:Value) (bytes:Nat) (hi:(Tryz.prog.info? e).map (fun i=>(i.zero,i.size,i.bytes))=some (some z,1,bytes)) (ht:Tryz.prog.underlying t=some (.slice e)) (hz:z.cells=#[z]) (hg:o.guard=none) (l c:Operand)
  (ag:o.op=Op.makeSlice t l c) (n:Nat) (hl:a.eval l=.int .i64 n) (hc:a.eval c=.int .i64 n) (hb:bytes*n<=281474976710656) (hm:n<=maxLen)
  (hK:∀ w',gS w' w.heap.size e (List.replicate n z)->gO w w'->wpList Tryz.prog ops Q rest (a.put o.dst (.slice (some ⟨w.heap.size,0,none⟩) n n)) w'):wpList Tryz.prog ops Q (o :: rest) a w:=by
 obtain ⟨i0,ah,ai,aj,al⟩:=info_parts hi;refine wpList_make_full w hg l c t ag w.heap.size e i0 z 1 ht ah ai aj .i64 .i64 _ _ n hl hc rfl rfl (by rw [al];exact hb) hm (Nat.le_refl _) ?_;intro w' h1 h2;rw [tH z hz n] at h1;refine hK w' ?_ ⟨h2.os,h2.tape,h2.output,h2.size,fun k hk=>h2.block k hk (by simp)⟩;obtain ⟨h3,h4⟩:=h1;rcases h4 with ⟨h4,_⟩ | ⟨g,cap,cur,h4,h5,h6,h7,h8,h9,am⟩
 ·cases h4
 ·cases h4;exact ⟨cur,h6,by simp;omega,by simpa using am⟩
end
structure Nd where
 kind:Int
 k:Int
 args:List Int
structure Fm where
 vars:Int
 nodes:List Nd
 top:Int
def lJ (kind:Int) (n:Nat):Bool:=if kind=0 then decide (n=0) else if kind=1 then decide (n=1) else decide (1<=n/\n<=16)
def mF (kind k:Int) (n:Nat):Nat:=if kind=0 then (if k=0\/k=1 then 0 else 3) else if kind=4 then (if 1<=k/\k<=n then 0 else 3) else if k=0 then 0 else 2
def lv (b:Int) (x:Nd):Nat :=
 if x.kind<0\/5<x.kind then 7 else if lJ x.kind x.args.length=false then 11
 else if x.args.all (fun a=>decide (0<=a/\a<b))=false then 10 else mF x.kind x.k x.args.length
def kN (b:Int):List Nd->Nat
 | []=>0
 | x :: l=>if lv b x=0 then kN (b+1) l else lv b x
def pr (f:Fm) (arg:Int):Bool:=decide (0<=f.vars/\0<=arg/\(arg<f.vars\/arg - f.vars<f.nodes.length))
def jP (f:Fm):Nat :=
 if f.vars<0\/24<f.vars then 3 else if 128<f.nodes.length then 4 else if kN f.vars f.nodes=0 then (if pr f f.top then 0 else 10) else kN f.vars f.nodes
def s_ (w:World) (b o:Nat) (x:Nd):Prop :=
 ∃ u,w.cell? ⟨b,o,none⟩=some (.int .i64 x.kind)/\w.cell? ⟨b,o+1,none⟩=some (.int .i64 x.k)/\w.cell? ⟨b,o+2,none⟩=some u/\gU w u x.args
def ii (w:World) (v:Value) (xs:List Nd):Prop :=
 ∃ (a:Option Addr) (c:Nat),v=.slice a xs.length c/\(xs.length<=c/\(a=none->c=0))/\xs.length<=140737488355328 /\
  ∀ i (h:i<xs.length),∃ b o,a=some ⟨b,o,none⟩/\s_ w b (o+i*3) xs[i]
theorem jL {w:World} {b o:Nat} {kind k:Int} {u:Value} (h1:w.cell? ⟨b,o,none⟩=some (.int .i64 kind)) (h2:w.cell? ⟨b,o+1,none⟩=some (.int .i64 k)) (h3:w.cell? ⟨b,o+2,none⟩=some u):w.rangeAt b o [.int .i64 kind,.int .i64 k,u]:=by
 intro j v hj
 match j,hj with
 | 0,hj=>simp at hj;subst hj;exact h1
 | 1,hj=>simp at hj;subst hj;exact h2
 | 2,hj=>simp at hj;subst hj;exact h3
theorem s_.kept {w w':World} {b o:Nat} {x:Nd} (h:s_ w b o x) (hk:gO w w'):s_ w' b o x:=by
 obtain ⟨u,h1,h2,h3,h4⟩:=h;exact ⟨u,hk.cell h1,hk.cell h2,hk.cell h3,h4.kept hk⟩
theorem ii.kept {w w':World} {v:Value} {xs:List Nd} (h:ii w v xs) (hk:gO w w'):ii w' v xs:=by
 obtain ⟨a,c,h1,h2,h3,h4⟩:=h;exact ⟨a,c,h1,h2,h3,fun i hi=>let ⟨b,o,h5,h6⟩:=h4 i hi;⟨b,o,h5,h6.kept hk⟩⟩
theorem uV (kind:Int) (n:Nat) (w:World):Calls Tryz.prog 119 #[.int .i64 kind,.int .i64 n] w fun e w'=>e=.returned (.bool (lJ kind n))/\w=w':=by
 unfold lJ;by_cases h0:kind=0
 ·subst h0;go_enter Tryz.func119,Tryz.ntmps119;go_wp2;go_ret;exact ⟨by simp;congr 1;rw [Bool.eq_iff_iff];simp;try omega,rfl⟩
 ·rw [if_neg h0];by_cases h1:kind=1
  ·subst h1;go_enter Tryz.func119,Tryz.ntmps119;go_wp2;go_ret;exact ⟨by simp;congr 1;rw [Bool.eq_iff_iff];simp;try omega,rfl⟩
  ·rw [if_neg h1];have b0:(kind == 0)=false:=by simpa using h0
   have b1:(kind == 1)=false:=by simpa using h1
   clear h0 h1;by_cases h2:1<=n
   ·by_cases h3:n<=16
    ·rw [decide_eq_true ⟨h2,h3⟩];have h4:(n:Int)<=16:=by omega
     go_enter Tryz.func119,Tryz.ntmps119;go_wp2;go_ret;exact ⟨rfl,rfl⟩
    ·rw [decide_eq_false fun h=>h3 h.2];have h4:¬ (n:Int)<=16:=by omega
     go_enter Tryz.func119,Tryz.ntmps119;go_wp2;go_ret;exact ⟨rfl,rfl⟩
   ·rw [decide_eq_false fun h=>h2 h.1];have h4:¬ (1:Int)<=(n:Int):=by omega
    go_enter Tryz.func119,Tryz.ntmps119;go_wp2;go_ret;exact ⟨rfl,rfl⟩
def iZ:Nd:=⟨0,0,[]⟩
def iY (m:List Bool) (args:List Int):List Bool:=args.foldl (fun m a=>m.set a.toNat true) m
def jg (V:Nat) (nodes:List Nd):Nat->List Bool->List Bool
 | 0,m=>m
 | k+1,m=>jg V nodes k (if m.getD (V+k) false then iY m (nodes.getD k iZ).args else m)
def io (V T:Nat) (nodes:List Nd):List Bool:=jg V nodes nodes.length ((List.replicate (V+nodes.length) false).set T true)
theorem kX (args:List Int):∀ m,(iY m args).length=m.length:=by
 induction args with
 | nil=>intro m;rfl
 | cons a l ih=>intro m;show (iY (m.set a.toNat true) l).length=_;rw [ih];simp
theorem yE (V:Nat) (nodes:List Nd):∀ k m,(jg V nodes k m).length=m.length:=by
 intro k;induction k with
 | zero=>intro m;rfl
 | succ k ih =>
  intro m;unfold jg;rw [ih];split
  ·exact kX _ _
  ·rfl
theorem mr (V T:Nat) (nodes:List Nd):(io V T nodes).length=V+nodes.length:=by
 unfold io;rw [yE];simp
structure Ok (f:Fm) (V T:Nat):Prop where
 vars:f.vars=V
 top:f.top=T
 v24:V<=24
 n128:f.nodes.length<=128
 tlt:T<V+f.nodes.length
 kind:∀ i (h:i<f.nodes.length),0<=f.nodes[i].kind/\f.nodes[i].kind<=5
 args:∀ i (h:i<f.nodes.length),∀ a∈f.nodes[i].args,0<=a/\a<(V:Int)+i
 argc:∀ i (h:i<f.nodes.length),lJ f.nodes[i].kind f.nodes[i].args.length=true
 arity:∀ i (h:i<f.nodes.length),mF f.nodes[i].kind f.nodes[i].k f.nodes[i].args.length=0
theorem me {kind:Int} {n:Nat} (h:lJ kind n=true):n<=16:=by
 unfold lJ at h;split at h
 ·simp at h;omega
 ·split at h
  ·simp at h;omega
  ·simp at h;omega
theorem nG {b:Int} {x:Nd} (h:lv b x=0):(0<=x.kind/\x.kind<=5)/\lJ x.kind x.args.length=true/\(∀ a∈x.args,0<=a/\a<b)/\mF x.kind x.k x.args.length=0:=by
 unfold lv at h;split at h
 ·cases h
 ·split at h
  ·cases h
  ·split at h
   ·cases h
   ·rename_i h1 h2 h3;refine ⟨by omega,by simpa using h2,?_,h⟩;rw [Bool.not_eq_false,List.all_eq_true] at h3;intro a ha;simpa using h3 a ha
theorem wO (b:Int) (xs:List Nd) (h:kN b xs=0):∀ i (hi:i<xs.length),lv (b+i) xs[i]=0:=by
 induction xs generalizing b with
 | nil=>intro i hi;simp at hi
 | cons x xs ih =>
  unfold kN at h;split at h
  ·rename_i h0;intro i hi;cases i with
   | zero=>simpa using h0
   | succ i =>
    have:=ih (b+1) h i (by simpa using hi);simpa [Int.add_assoc,Int.add_comm 1] using this
  ·rename_i h0;exact absurd h h0
theorem IU (f:Fm) (h:jP f=0):∃ V T,Ok f V T:=by
 unfold jP at h;split at h
 ·cases h
 ·split at h
  ·cases h
  ·split at h
   ·rename_i h1 h2 h3;split at h
    ·rename_i h4;simp only [pr,decide_eq_true_eq] at h4;obtain ⟨V,hV⟩:=Int.eq_ofNat_of_zero_le h4.1;obtain ⟨T,hT⟩:=Int.eq_ofNat_of_zero_le h4.2.1;have hz:=wO _ _ h3;refine ⟨V,T,hV,hT,by omega,by omega,by omega,?_,?_,?_,?_⟩
     ·exact fun i hi=>(nG (hz i hi)).1
     ·intro i hi a ha;have:=(nG (hz i hi)).2.2.1 a ha;omega
     ·exact fun i hi=>(nG (hz i hi)).2.1
     ·exact fun i hi=>(nG (hz i hi)).2.2.2
    ·cases h
   ·rename_i h3;exact absurd h h3
theorem jh (m:List Bool) (i:Nat) (h:i<m.length):(m.map Value.bool)[i]'(by simpa using h)=.bool (m.getD i false):=by
 simp [List.getD_eq_getElem?_getD,h]
theorem vl (v:Value) (f:Fm) (V T:Nat) (w:World) (hv:ii w v f.nodes) (az:Ok f V T) :
  Calls Tryz.prog 136 #[.agg #[.int .i64 V,v,.int .i64 T]] w fun e w'=>∃ g,e=.returned (.slice (some ⟨g,0,none⟩) (V+f.nodes.length) (V+f.nodes.length))/\w.heap.size<=g/\gS w' g 4 ((io V T f.nodes).map .bool)/\gO w w':=by
 obtain ⟨a,c,rfl,_,hl,hx⟩:=hv;obtain ⟨n,hn⟩:∃ n,n=f.nodes.length:=⟨_,rfl⟩;rw [<-hn] at hl⊢;have bt:n<=128:=by rw [hn];exact az.n128
 have bw:=az.v24;have bz:T<V+n:=by rw [hn];exact az.tlt
 obtain ⟨R,hR⟩:∃ R,R=io V T f.nodes:=⟨_,rfl⟩;rw [<-hR];have HX:=af hx;have HN:=af hn;have HO:=af az;have HR:=af hR;have bA:((T:Nat):Int)<((V+n:Nat):Int):=by omega
 have bd:(T:Int)<(V:Int)+(n:Int):=by omega
 clear hx hn az hR hl;go_enter Tryz.func136,Tryz.ntmps136;go_wp2_with (at_make;refine kg 132 4 _ 1 vH Tryz.underlying132 rfl rfl _ _ rfl (V+n) (by show Value.int .i64 ((V:Int)+(n:Int))=.int .i64 ((V+n:Nat):Int);rw [Int.natCast_add]) (by show Value.int .i64 ((V:Int)+(n:Int))=.int .i64 ((V+n:Nat):Int);rw [Int.natCast_add]) (by omega) (by unfold maxLen;omega) ?_;intro w1 aA aw;simp only [World.size_alloc] at aA;have aP:=aw.size;simp only [World.size_alloc] at aP;have c0:=aA.cell (i:=T) (by simp;omega);simp only [List.getElem_replicate] at c0;have f0:=aA.free T;have b0:=aw.cell (p:=⟨w.heap.size,0,none⟩) (v:=.int .i64 V) (by simp);have b1:=aw.cell (p:=⟨w.heap.size,1,none⟩) (v:=.slice a n c) (by simp);have b2:=aw.cell (p:=⟨w.heap.size,2,none⟩) (v:=.int .i64 T) (by simp);have aQ:=af aA;clear aA);have aR:gO (w.alloc (.cells #[.int .i64 V,.slice a n c,.int .i64 T] 41)) (w1.setCell ⟨w.heap.size+1,T,none⟩ (.bool true)):=aw.store (by simp) _ _;have aB:=aQ.out.store T (.bool true)
 have aS:gS (w1.setCell ⟨w.heap.size+1,T,none⟩ (.bool true)) (w.heap.size+1) 4 ((((List.replicate (V+n) false).set T true)).map .bool):=by
  rw [List.map_set,List.map_replicate];exact aB
 clear aB c0 f0 b0 b1 b2 aP aw aQ;go_loopw [4,6,40] (fun i _ _ wr=>∃ (k:Nat) (m:List Bool),k<=n/\i=.int .i64 ((k:Int) - 1)/\Hid (m.length=V+n/\jg V f.nodes k m=R)/\gS wr (w.heap.size+1) 4 (m.map .bool)/\gO (w.alloc (.cells #[.int .i64 V,.slice a n c,.int .i64 T] 41)) wr) (fun i _ _ _=>(intOf i+1).toNat)
 case atStart=>exact ⟨n,_,Nat.le_refl _,rfl,af ⟨by simp,by rw [HR.out,HN.out];rfl⟩,aS,aR⟩
 case round =>
  clear aS aR;obtain ⟨k,m,hk,rfl,HM,ah,hK⟩:=hrel;have am:=HM.out.1;by_cases hpos:0<k
  ·obtain ⟨q,rfl⟩:∃ q,k=q+1:=⟨k - 1,by omega⟩;have e1:((q+1:Nat):Int) - 1=(q:Int):=by omega
   rw [e1];have aI:q<f.nodes.length:=by have:=HN.out;omega
   obtain ⟨b,o,rfl,u,hc1,hc2,aT,hI⟩:=HX.out q aI;have aJ:=(((gO.refl w).alloc (.cells #[.int .i64 V,.slice (some ⟨b,o,none⟩) n c,.int .i64 T] 41)).trans hK).cell aT;have b0:=hK.cell (p:=⟨w.heap.size,0,none⟩) (v:=.int .i64 V) (by simp);have b1:=hK.cell (p:=⟨w.heap.size,1,none⟩) (v:=.slice (some ⟨b,o,none⟩) n c) (by simp);have cm:=ah.cell (i:=V+q) (by simp;omega);rw [jh m (V+q) (by omega)] at cm;have ap:∀ x∈f.nodes[q].args,0<=x/\x<(V:Int)+q:=HO.out.args q aI
   have aK:jg V f.nodes (q+1) m=jg V f.nodes q (if m.getD (V+q) false then iY m f.nodes[q].args else m):=by
    show jg V f.nodes q (if m.getD (V+q) false then iY m (f.nodes.getD q iZ).args else m)=_;rw [show f.nodes.getD q iZ=f.nodes[q] by simp [List.getD_eq_getElem?_getD,aI]]
   obtain ⟨args,ai⟩:∃ x,x=f.nodes[q].args:=⟨_,rfl⟩;rw [<-ai] at ap aK hI;obtain ⟨ax,cx,rfl,_,bf,aU⟩:=hI;obtain ⟨na,aL⟩:∃ x,x=args.length:=⟨_,rfl⟩;rw [<-aL] at aJ bf;have bB:(0:Int)<=(V:Int)+(q:Int)/\(V:Int)+(q:Int)<(V:Int)+(n:Int):=by omega
   have bC:(V:Int)+(q:Int)<((V+n:Nat):Int):=by omega
   have bD:(q:Int)<(n:Int):=by omega
   have HG:=af aK;have bh:=af ap;have bi:=af aU;have aV:=af aL;have aq:=af ah;have aC:=af hK;clear hc1 hc2 aT ap aK aU aL ai ah e1;cases ay:m.getD (V+q) false with
   | false =>
    rw [ay] at cm;have aM:=af ay;clear ay hK;go_wp2;go_roundw
    case rel=>exact ⟨q,m,by omega,by go_num,af ⟨am,by have:=HM.out.2;rw [HG.out,aM.out] at this;exact this⟩,aq.out,aC.out⟩
    case measure=>simp [intOf]
   | true =>
    rw [ay] at cm;have aM:=af ay;clear ay hK;go_wp2;obtain ⟨wo,aN⟩:∃ wo:World,wo=wr:=⟨_,rfl⟩;rw [<-aN] at aq aC aJ b0 b1 cm;clear aJ b0 b1 cm;go_loopw [6,40] (fun _ j wi=>∃ (p:Nat) (m2:List Bool),p<=na/\j=.int .i64 p/\Hid (m2=iY m (args.take p))/\gS wi (w.heap.size+1) 4 (m2.map .bool)/\gO (w.alloc (.cells #[.int .i64 V,.slice (some ⟨b,o,none⟩) n c,.int .i64 T] 41)) wi) (fun _ j _=>na - (intOf j).toNat)
    case atStart=>exact ⟨0,m,Nat.zero_le _,rfl,af rfl,by rw [<-aN];exact aq.out,by rw [<-aN];exact aC.out⟩
    case round =>
     obtain ⟨p,m2,hp,rfl,aO,ag,aD⟩:=hrel;have aj:m2.length=V+n:=by rw [aO.out,kX];exact am
     by_cases bE:p<na
     ·have aW:p<args.length:=by have:=aV.out;omega
      obtain ⟨b2,o2,rfl,aX⟩:=bi.out p aW;have aF:=(((gO.refl w).alloc (.cells #[.int .i64 V,.slice (some ⟨b,o,none⟩) n c,.int .i64 T] 41)).trans aD).cell aX;obtain ⟨y,hy⟩:∃ y,y=args[p]:=⟨_,rfl⟩;have aY:=bh.out args[p] (List.getElem_mem _);rw [<-hy] at aF aY;obtain ⟨Y,hY⟩:=Int.eq_ofNat_of_zero_le aY.1;subst hY
      have al:iY m (args.take (p+1))=(iY m (args.take p)).set Y true:=by
       unfold iY;rw [List.take_succ_eq_append_getElem aW,List.foldl_append,<-hy];simp
      have bF:Y<V+n:=by omega
      have cY:=ag.cell (i:=Y) (by simp;omega);rw [jh m2 Y (by omega)] at cY;have fY:=ag.free Y;have ar:=ag.store Y (.bool true);rw [<-List.map_set] at ar;have aZ:=aD.store (g:=w.heap.size+1) (by simp) Y (.bool true);have bG:(Y:Int)<(V:Int)+(n:Int):=by omega
      have bH:(Y:Int)<((V+n:Nat):Int):=by omega
      have bj:=af al;have bk:=af ar;have bl:=af aZ;clear aX hy al ar aZ aD ag aj;go_wp2;go_roundw
      case rel=>exact ⟨p+1,_,by omega,by go_num,af (by rw [bj.out,<-aO.out]),bk.out,bl.out⟩
      case measure=>simp [intOf];omega
     ·have e:p=na:=by omega
      have aG:m2=iY m args:=by rw [aO.out,e,List.take_of_length_le (by have:=aV.out;omega)]
      have aH:=af aG;have bo:=af ag;have bp:=af aD;clear aG e ag aD aj;go_wp2;go_roundw
      case rel=>exact ⟨q,m2,by omega,by go_num,af ⟨by rw [aH.out,kX];exact am,by have:=HM.out.2;rw [HG.out,aM.out] at this;rw [aH.out];exact this⟩,bo.out,bp.out⟩
      case measure=>simp [intOf]
  ·have e:k=0:=by omega
   subst e;have a_:R=m:=HM.out.2.symm;have bq:=af a_;have br:=af ah;have aC:=af hK;clear a_ ah hK;go_wp2;go_ret;exact ⟨_,rfl,by omega,by rw [bq.out];exact br.out,((gO.refl _).alloc _).trans aC.out⟩
theorem nY (v:Value) (f:Fm) (V T:Nat) (w:World) (hv:ii w v f.nodes) (az:Ok f V T) :
  Calls Tryz.prog 109 #[.agg #[.int .i64 V,v,.int .i64 T]] w fun e w'=>∃ g,e=.returned (.slice (some ⟨g,0,none⟩) (V+f.nodes.length) (V+f.nodes.length))/\w.heap.size<=g/\gS w' g 4 ((io V T f.nodes).map .bool)/\gO w w':=by
 obtain ⟨a,c,rfl,_,hl,hx⟩:=hv;obtain ⟨n,hn⟩:∃ n,n=f.nodes.length:=⟨_,rfl⟩;rw [<-hn] at hl⊢;have bt:n<=128:=by rw [hn];exact az.n128
 have bw:=az.v24;have bz:T<V+n:=by rw [hn];exact az.tlt
 obtain ⟨R,hR⟩:∃ R,R=io V T f.nodes:=⟨_,rfl⟩;rw [<-hR];have HX:=af hx;have HN:=af hn;have HO:=af az;have HR:=af hR;have bA:((T:Nat):Int)<((V+n:Nat):Int):=by omega
 have bd:(T:Int)<(V:Int)+(n:Int):=by omega
 clear hx hn az hR hl;go_enter Tryz.func109,Tryz.ntmps109;go_wp2_with (at_make;refine kg 132 4 _ 1 vH Tryz.underlying132 rfl rfl _ _ rfl (V+n) (by show Value.int .i64 ((V:Int)+(n:Int))=.int .i64 ((V+n:Nat):Int);rw [Int.natCast_add]) (by show Value.int .i64 ((V:Int)+(n:Int))=.int .i64 ((V+n:Nat):Int);rw [Int.natCast_add]) (by omega) (by unfold maxLen;omega) ?_;intro w1 aA aw;simp only [World.size_alloc] at aA;have aP:=aw.size;simp only [World.size_alloc] at aP;have c0:=aA.cell (i:=T) (by simp;omega);simp only [List.getElem_replicate] at c0;have f0:=aA.free T;have b0:=aw.cell (p:=⟨w.heap.size,0,none⟩) (v:=.int .i64 V) (by simp);have b1:=aw.cell (p:=⟨w.heap.size,1,none⟩) (v:=.slice a n c) (by simp);have b2:=aw.cell (p:=⟨w.heap.size,2,none⟩) (v:=.int .i64 T) (by simp);have aQ:=af aA;clear aA);have aR:gO (w.alloc (.cells #[.int .i64 V,.slice a n c,.int .i64 T] 41)) (w1.setCell ⟨w.heap.size+1,T,none⟩ (.bool true)):=aw.store (by simp) _ _;have aB:=aQ.out.store T (.bool true)
 have aS:gS (w1.setCell ⟨w.heap.size+1,T,none⟩ (.bool true)) (w.heap.size+1) 4 ((((List.replicate (V+n) false).set T true)).map .bool):=by
  rw [List.map_set,List.map_replicate];exact aB
 clear aB c0 f0 b0 b1 b2 aP aw aQ;go_loopw [4,6,41] (fun i _ _ wr=>∃ (k:Nat) (m:List Bool),k<=n/\i=.int .i64 ((k:Int) - 1)/\Hid (m.length=V+n/\jg V f.nodes k m=R)/\gS wr (w.heap.size+1) 4 (m.map .bool)/\gO (w.alloc (.cells #[.int .i64 V,.slice a n c,.int .i64 T] 41)) wr) (fun i _ _ _=>(intOf i+1).toNat)
 case atStart=>exact ⟨n,_,Nat.le_refl _,rfl,af ⟨by simp,by rw [HR.out,HN.out];rfl⟩,aS,aR⟩
 case round =>
  clear aS aR;obtain ⟨k,m,hk,rfl,HM,ah,hK⟩:=hrel;have am:=HM.out.1;by_cases hpos:0<k
  ·obtain ⟨q,rfl⟩:∃ q,k=q+1:=⟨k - 1,by omega⟩;have e1:((q+1:Nat):Int) - 1=(q:Int):=by omega
   rw [e1];have aI:q<f.nodes.length:=by have:=HN.out;omega
   obtain ⟨b,o,rfl,u,hc1,hc2,aT,hI⟩:=HX.out q aI;have aJ:=(((gO.refl w).alloc (.cells #[.int .i64 V,.slice (some ⟨b,o,none⟩) n c,.int .i64 T] 41)).trans hK).cell aT;have b0:=hK.cell (p:=⟨w.heap.size,0,none⟩) (v:=.int .i64 V) (by simp);have b1:=hK.cell (p:=⟨w.heap.size,1,none⟩) (v:=.slice (some ⟨b,o,none⟩) n c) (by simp);have cm:=ah.cell (i:=V+q) (by simp;omega);rw [jh m (V+q) (by omega)] at cm;have ap:∀ x∈f.nodes[q].args,0<=x/\x<(V:Int)+q:=HO.out.args q aI
   have aK:jg V f.nodes (q+1) m=jg V f.nodes q (if m.getD (V+q) false then iY m f.nodes[q].args else m):=by
    show jg V f.nodes q (if m.getD (V+q) false then iY m (f.nodes.getD q iZ).args else m)=_;rw [show f.nodes.getD q iZ=f.nodes[q] by simp [List.getD_eq_getElem?_getD,aI]]
   obtain ⟨args,ai⟩:∃ x,x=f.nodes[q].args:=⟨_,rfl⟩;rw [<-ai] at ap aK hI;obtain ⟨ax,cx,rfl,_,bf,aU⟩:=hI;obtain ⟨na,aL⟩:∃ x,x=args.length:=⟨_,rfl⟩;rw [<-aL] at aJ bf;have bB:(0:Int)<=(V:Int)+(q:Int)/\(V:Int)+(q:Int)<(V:Int)+(n:Int):=by omega
   have bC:(V:Int)+(q:Int)<((V+n:Nat):Int):=by omega
   have bD:(q:Int)<(n:Int):=by omega
   have HG:=af aK;have bh:=af ap;have bi:=af aU;have aV:=af aL;have aq:=af ah;have aC:=af hK;clear hc1 hc2 aT ap aK aU aL ai ah e1;cases ay:m.getD (V+q) false with
   | false =>
    rw [ay] at cm;have aM:=af ay;clear ay hK;go_wp2;go_roundw
    case rel=>exact ⟨q,m,by omega,by go_num,af ⟨am,by have:=HM.out.2;rw [HG.out,aM.out] at this;exact this⟩,aq.out,aC.out⟩
    case measure=>simp [intOf]
   | true =>
    rw [ay] at cm;have aM:=af ay;clear ay hK;go_wp2;obtain ⟨wo,aN⟩:∃ wo:World,wo=wr:=⟨_,rfl⟩;rw [<-aN] at aq aC aJ b0 b1 cm;clear aJ b0 b1 cm;go_loopw [6,41] (fun _ j wi=>∃ (p:Nat) (m2:List Bool),p<=na/\j=.int .i64 p/\Hid (m2=iY m (args.take p))/\gS wi (w.heap.size+1) 4 (m2.map .bool)/\gO (w.alloc (.cells #[.int .i64 V,.slice (some ⟨b,o,none⟩) n c,.int .i64 T] 41)) wi) (fun _ j _=>na - (intOf j).toNat)
    case atStart=>exact ⟨0,m,Nat.zero_le _,rfl,af rfl,by rw [<-aN];exact aq.out,by rw [<-aN];exact aC.out⟩
    case round =>
     obtain ⟨p,m2,hp,rfl,aO,ag,aD⟩:=hrel;have aj:m2.length=V+n:=by rw [aO.out,kX];exact am
     by_cases bE:p<na
     ·have aW:p<args.length:=by have:=aV.out;omega
      obtain ⟨b2,o2,rfl,aX⟩:=bi.out p aW;have aF:=(((gO.refl w).alloc (.cells #[.int .i64 V,.slice (some ⟨b,o,none⟩) n c,.int .i64 T] 41)).trans aD).cell aX;obtain ⟨y,hy⟩:∃ y,y=args[p]:=⟨_,rfl⟩;have aY:=bh.out args[p] (List.getElem_mem _);rw [<-hy] at aF aY;obtain ⟨Y,hY⟩:=Int.eq_ofNat_of_zero_le aY.1;subst hY
      have al:iY m (args.take (p+1))=(iY m (args.take p)).set Y true:=by
       unfold iY;rw [List.take_succ_eq_append_getElem aW,List.foldl_append,<-hy];simp
      have bF:Y<V+n:=by omega
      have cY:=ag.cell (i:=Y) (by simp;omega);rw [jh m2 Y (by omega)] at cY;have fY:=ag.free Y;have ar:=ag.store Y (.bool true);rw [<-List.map_set] at ar;have aZ:=aD.store (g:=w.heap.size+1) (by simp) Y (.bool true);have bG:(Y:Int)<(V:Int)+(n:Int):=by omega
      have bH:(Y:Int)<((V+n:Nat):Int):=by omega
      have bj:=af al;have bk:=af ar;have bl:=af aZ;clear aX hy al ar aZ aD ag aj;go_wp2;go_roundw
      case rel=>exact ⟨p+1,_,by omega,by go_num,af (by rw [bj.out,<-aO.out]),bk.out,bl.out⟩
      case measure=>simp [intOf];omega
     ·have e:p=na:=by omega
      have aG:m2=iY m args:=by rw [aO.out,e,List.take_of_length_le (by have:=aV.out;omega)]
      have aH:=af aG;have bo:=af ag;have bp:=af aD;clear aG e ag aD aj;go_wp2;go_roundw
      case rel=>exact ⟨q,m2,by omega,by go_num,af ⟨by rw [aH.out,kX];exact am,by have:=HM.out.2;rw [HG.out,aM.out] at this;rw [aH.out];exact this⟩,bo.out,bp.out⟩
      case measure=>simp [intOf]
  ·have e:k=0:=by omega
   subst e;have a_:R=m:=HM.out.2.symm;have bq:=af a_;have br:=af ah;have aC:=af hK;clear a_ ah hK;go_wp2;go_ret;exact ⟨_,rfl,by omega,by rw [bq.out];exact br.out,((gO.refl _).alloc _).trans aC.out⟩
theorem uW (vars top:Int) (v:Value) (xs:List Nd) (i:Nat) (w:World) (hv:ii w v xs) (hi:i<xs.length) (h0:0<=vars) (aD:vars<=24) (aF:i<=1000) :
  Calls Tryz.prog 71 #[.agg #[.int .i64 vars,v,.int .i64 top],.int .i64 i] w fun e w'=>e=.returned (iV (lv (vars+i) xs[i]))/\gO w w':=by
 obtain ⟨a,c,rfl,_,hl,hx⟩:=hv;obtain ⟨b,o,rfl,u,hc1,hc2,aj,hI⟩:=hx i hi;obtain ⟨nl,ar⟩:∃ nl,nl=xs.length:=⟨_,rfl⟩;obtain ⟨x,aw⟩:∃ x,x=xs[i]:=⟨_,rfl⟩;rw [<-aw] at hc1 hc2 hI⊢;rw [<-ar] at hi hl⊢;obtain ⟨kind,k,args⟩:=x;obtain ⟨aa,ca,rfl,_,ay,am⟩:=hI;simp only at hc1 hc2 aj;obtain ⟨n,hn⟩:∃ n,n=args.length:=⟨_,rfl⟩;simp only at am ay;rw [<-hn] at aj ay;have HC:=af am;have HN:=af hn;have aG:(i:Int)<(nl:Int):=by omega
 have HR:=af (fun w' (hk:gO w w')=>jL (hk.cell hc1) (hk.cell hc2) (hk.cell aj));clear hx aw am ar hn hc1 hc2 aj;unfold lv;simp only;by_cases hk:kind<0\/5<kind
 ·rw [if_pos hk];rcases hk with hk | hk
  all_goals
   go_enter Tryz.func71,Tryz.ntmps71;go_wp2_with (refine wpList_load_mid rfl 106 _ rfl b (o+i*3) rfl _ _ (HR.out _ ((gO.refl _).alloc _)) Tryz.underlying106 rfl (by kernel_rfl) ?_);go_ret;exact ⟨rfl,((gO.refl _).alloc _).alloc _⟩
 ·rw [if_neg hk];have aH:¬ kind<0:=by omega
  have aI:¬ 5<kind:=by omega
  clear hk;have HA:=af (fun W=>uV kind n W);have az:args.length=n:=HN.out.symm;rw [az];clear az;cases al:lJ kind n with
  | false =>
   rw [if_pos rfl];have ap:=af al;clear al;go_enter Tryz.func71,Tryz.ntmps71
   go_wp2_with (first
    | (refine wpList_load_mid rfl 106 _ rfl b (o+i*3) rfl _ _ (HR.out _ ((gO.refl _).alloc _)) Tryz.underlying106 rfl (by kernel_rfl) ?_)
    | (go_at_call 119;refine (HA.out _).mono ?_;rintro e w2 ⟨rfl,rfl⟩;rw [ap.out]))
   go_ret;exact ⟨rfl,((gO.refl _).alloc _).alloc _⟩
  | true =>
   rw [if_neg (by simp)];have ap:=af al;clear al;have aC:vars+(i:Int)<=1024/\0<=vars+(i:Int):=by omega
   obtain ⟨r,hr⟩:∃ r,r=(if args.all (fun a=>decide (0<=a/\a<vars+(i:Int)))=false then 10 else mF kind k n):=⟨_,rfl⟩;rw [<-hr];have aq:=af hr;clear hr;go_enter Tryz.func71,Tryz.ntmps71
   go_wp2_with (first
    | (refine wpList_load_mid rfl 106 _ rfl b (o+i*3) rfl _ _ (HR.out _ ((gO.refl _).alloc _)) Tryz.underlying106 rfl (by kernel_rfl) ?_)
    | (go_at_call 119;refine (HA.out _).mono ?_;rintro e w2 ⟨rfl,rfl⟩;rw [ap.out]))
   go_loop [7,33] (fun _ j=>∃ q:Nat,q<=n/\j=.int .i64 q/\Hid (∀ x∈args.take q,0<=x/\x<vars+(i:Int))) (fun _ j=>n - (intOf j).toNat)
   case atStart=>exact ⟨0,Nat.zero_le _,rfl,af (by simp)⟩
   case round =>
    obtain ⟨q,hq,rfl,HF⟩:=hrel;by_cases aJ:q<n
    ·have aA:q<args.length:=by have:=HN.out;omega
     obtain ⟨b2,o2,rfl,aB⟩:=HC.out q aA;have ah:=(((gO.refl w).alloc (.cells #[.int .i64 vars,.slice (some ⟨b,o,none⟩) nl c,.int .i64 top] 41)).alloc (.cells #[.int .i64 kind,.int .i64 k,.slice (some ⟨b2,o2,none⟩) n ca] 106)).cell aB;obtain ⟨y,hy⟩:∃ y,y=args[q]:=⟨_,rfl⟩;rw [<-hy] at ah;have HY:=af hy;clear aB hy;by_cases aK:y<0
     ·go_wp2;go_ret;refine ⟨?_,((gO.refl _).alloc _).alloc _⟩;rw [aq.out,if_pos]
      ·rfl
      ·rw [List.all_eq_false];exact ⟨y,by rw [HY.out];exact List.getElem_mem _,by simp;omega⟩
     ·by_cases aL:y<vars+(i:Int)
      ·go_wp2;go_round
       case rel =>
        refine ⟨q+1,by omega,by go_num,af ?_⟩;intro z hz;rw [List.take_succ_eq_append_getElem aA] at hz;rcases List.mem_append.1 hz with hz | hz
        ·exact HF.out z hz
        ·simp at hz;rw [hz,<-HY.out];omega
       case measure=>simp [intOf];omega
      ·go_wp2;go_ret;refine ⟨?_,((gO.refl _).alloc _).alloc _⟩;rw [aq.out,if_pos]
       ·rfl
       ·rw [List.all_eq_false];exact ⟨y,by rw [HY.out];exact List.getElem_mem _,by simp;omega⟩
    ·have ai:r=mF kind k n:=by
      rw [aq.out,if_neg];have hh:=HF.out;rw [List.take_of_length_le (by have:=HN.out;omega)] at hh;rw [Bool.not_eq_false,List.all_eq_true];intro z hz;exact decide_eq_true (hh z hz)
     have ag:=af ai;clear ai;by_cases e0:kind=0
     ·by_cases k0:k=0
      ·subst e0 k0;go_wp2;go_ret;exact ⟨by rw [ag.out];rfl,((gO.refl _).alloc _).alloc _⟩
      ·by_cases k1:k=1
       ·subst e0 k1;go_wp2;go_ret;exact ⟨by rw [ag.out];rfl,((gO.refl _).alloc _).alloc _⟩
       ·have b0:(k == 0)=false:=by simpa using k0
        have b1:(k == 1)=false:=by simpa using k1
        have b2:(k != 0)=true:=by simpa using k0
        have b3:(k != 1)=true:=by simpa using k1
        subst e0;go_wp2;go_ret;exact ⟨by rw [ag.out,mF,if_pos rfl,if_neg (by omega)];rfl,((gO.refl _).alloc _).alloc _⟩
     ·by_cases e4:kind=4
      ·by_cases k0:1<=k
       ·by_cases k1:k<=n
        ·subst e4;go_wp2;go_ret;exact ⟨by rw [ag.out,mF,if_neg (by omega),if_pos rfl,if_pos (by omega)];rfl,((gO.refl _).alloc _).alloc _⟩
        ·subst e4;go_wp2;go_ret;exact ⟨by rw [ag.out,mF,if_neg (by omega),if_pos rfl,if_neg (by omega)];rfl,((gO.refl _).alloc _).alloc _⟩
       ·subst e4;go_wp2;go_ret;exact ⟨by rw [ag.out,mF,if_neg (by omega),if_pos rfl,if_neg (by omega)];rfl,((gO.refl _).alloc _).alloc _⟩
      ·by_cases k0:k=0
       ·subst k0;go_wp2;go_ret;exact ⟨by rw [ag.out,mF,if_neg e0,if_neg e4,if_pos rfl];rfl,((gO.refl _).alloc _).alloc _⟩
       ·have b0:(k == 0)=false:=by simpa using k0
        have b2:(k != 0)=true:=by simpa using k0
        go_wp2;go_ret;exact ⟨by rw [ag.out,mF,if_neg e0,if_neg e4,if_neg k0];rfl,((gO.refl _).alloc _).alloc _⟩
abbrev ot (v:Value) (f:Fm):Value:=.agg #[.int .i64 f.vars,v,.int .i64 f.top]
theorem BU (v:Value) (f:Fm) (w:World) (hv:ii w v f.nodes) (h0:0<=f.vars) (ag:f.vars<=24) (arg:Int) (ht:arg<=9223372036854775807) :
  Calls Tryz.prog 72 #[ot v f,.int .i64 arg] w fun e w'=>e=.returned (.bool (pr f arg))/\gO w w':=by
 obtain ⟨a,c,rfl,_,hl,hx⟩:=hv;obtain ⟨vars,nodes,top⟩:=f;simp only at hl hx h0 ag;unfold pr;simp only;clear hx;obtain ⟨n,hn⟩:∃ n,n=nodes.length:=⟨_,rfl⟩;rw [<-hn] at hl⊢;clear hn;by_cases h1:0<=arg
 ·by_cases h2:arg<vars
  ·rw [decide_eq_true ⟨h0,h1,.inl h2⟩];go_enter Tryz.func72,Tryz.ntmps72;go_wp2;go_ret;exact ⟨rfl,(gO.refl _).alloc _⟩
  ·by_cases h3:arg - vars<n
   ·rw [decide_eq_true ⟨h0,h1,.inr h3⟩];go_enter Tryz.func72,Tryz.ntmps72;go_wp2;go_ret;exact ⟨rfl,(gO.refl _).alloc _⟩
   ·rw [decide_eq_false (by rintro ⟨_,_,h | h⟩;exact h2 h;exact h3 h)];go_enter Tryz.func72,Tryz.ntmps72;go_wp2;go_ret;exact ⟨rfl,(gO.refl _).alloc _⟩
 ·rw [decide_eq_false fun h=>h1 h.2.1];go_enter Tryz.func72,Tryz.ntmps72;go_wp2;go_ret;exact ⟨rfl,(gO.refl _).alloc _⟩
theorem tn (b:Int) (xs:List Nd):∀ (k:Nat) (h:k<xs.length),(∀ j (hj:j<k),lv (b+j) (xs[j]'(by omega))=0)->lv (b+k) xs[k]≠0->kN b xs=lv (b+k) xs[k]:=by
 induction xs generalizing b with
 | nil=>intro k h;simp at h
 | cons x xs ih =>
  intro k h h1 h2;unfold kN;cases k with
  | zero=>simp at h2⊢;exact fun h=>absurd h h2
  | succ k =>
   have h3:=h1 0 (by omega);simp at h3;rw [if_pos h3]
   have:=ih (b+1) k (by simpa using h) (fun j hj=>by
    have:=h1 (j+1) (by omega);simpa [Int.add_assoc,Int.add_comm 1] using this) (by simpa [Int.add_assoc,Int.add_comm 1] using h2)
   rw [this];simp [Int.add_assoc,Int.add_comm 1]
theorem qs (b:Int) (xs:List Nd) (h:∀ j (hj:j<xs.length),lv (b+j) xs[j]=0):kN b xs=0:=by
 induction xs generalizing b with
 | nil=>rfl
 | cons x xs ih =>
  unfold kN;have h3:=h 0 (by simp);simp at h3;rw [if_pos h3];refine ih (b+1) fun j hj=>?_
  have:=h (j+1) (by simpa using hj);simpa [Int.add_assoc,Int.add_comm 1] using this
theorem mf (v:Value) (f:Fm) (w:World) (hv:ii w v f.nodes) (ht:f.top<=9223372036854775807) :
  Calls Tryz.prog 30 #[ot v f] w fun e w'=>e=.returned (iV (jP f))/\gO w w':=by
 obtain ⟨r,hr⟩:∃ r,r=jP f:=⟨_,rfl⟩;rw [<-hr];have HV:=af hv;have az:=af hr;obtain ⟨a,c,rfl,_,hl,hx⟩:=hv;obtain ⟨n,hn⟩:∃ n,n=f.nodes.length:=⟨_,rfl⟩;rw [<-hn] at hl HV⊢;have HN:=af hn;obtain ⟨vars,ai⟩:∃ x,x=f.vars:=⟨_,rfl⟩;obtain ⟨top,al⟩:∃ x,x=f.top:=⟨_,rfl⟩;rw [<-al] at ht;have ah:=af ai;have ap:=af al;unfold ot;rw [<-ai,<-al];clear hx hr hn ai al;by_cases h:vars<0\/24<vars
 ·have h9:r=3:=by rw [az.out,jP,if_pos (by rw [<-ah.out];exact h)]
  subst h9;rcases h with h | h
  all_goals
   go_enter Tryz.func30,Tryz.ntmps30;go_wp2;go_ret;exact ⟨rfl,(gO.refl _).alloc _⟩
 ·have h0:0<=vars:=by omega
  have aC:vars<=24:=by omega
  have HH:=af (show ¬ (f.vars<0\/24<f.vars) by rw [<-ah.out];exact h);clear h;by_cases hn:128<n
  ·have h9:r=4:=by rw [az.out,jP,if_neg HH.out,if_pos (by rw [<-HN.out];exact hn)]
   subst h9;go_enter Tryz.func30,Tryz.ntmps30;go_wp2;go_ret;exact ⟨rfl,(gO.refl _).alloc _⟩
  ·have aD:=af (show ¬ 128<f.nodes.length by rw [<-HN.out];exact hn);go_enter Tryz.func30,Tryz.ntmps30;go_wp2;go_loopw [3,4,22] (fun _ _ i wr=>∃ k:Nat,k<=n/\i=.int .i64 k/\Hid (∀ j (hj:j<f.nodes.length),j<k->lv (f.vars+j) f.nodes[j]=0)/\gO w wr/\wr.cell? ⟨w.heap.size,0,none⟩=some (.int .i64 vars)/\wr.cell? ⟨w.heap.size,1,none⟩=some (.slice a n c)/\wr.cell? ⟨w.heap.size,2,none⟩=some (.int .i64 top)) (fun _ _ i _=>n - (intOf i).toNat)
   case atStart=>exact ⟨0,Nat.zero_le _,rfl,af (by intro j _ h;omega),(gO.refl _).alloc _,by simp,by simp,by simp⟩
   case round =>
    obtain ⟨k,hk,rfl,HF,hK,c0,c1,c2⟩:=hrel
    have am:wr.rangeAt w.heap.size 0 [.int .i64 vars,.slice a n c,.int .i64 top]:=by
     intro j v hj
     match j,hj with
     | 0,hj=>simp at hj;subst hj;exact c0
     | 1,hj=>simp at hj;subst hj;exact c1
     | 2,hj=>simp at hj;subst hj;exact c2
    have aA:=af am;clear am;by_cases aI:k<n
    ·have aF:k<f.nodes.length:=by have:=HN.out;omega
     have ag:=uW f.vars f.top _ f.nodes k wr (HV.out.kept hK) aF (by rw [<-ah.out];exact h0) (by rw [<-ah.out];exact aC) (by omega);rw [<-ah.out,<-ap.out] at ag;obtain ⟨q,hq⟩:∃ q,q=lv (vars+k) f.nodes[k]:=⟨_,rfl⟩;rw [<-hq] at ag;have HQ:=af hq;have aq:=af ag;clear hq ag;by_cases ar:q=0
     ·have HE:=af (show iV q=.nilIface by rw [ar];rfl)
      go_wp2_with (first
       | (with_reducible refine wpList_load_mid rfl 41 _ rfl w.heap.size 0 rfl _ _ aA.out Tryz.underlying41 rfl (by kernel_rfl) ?_)
       | (go_at_call 71;refine aq.out.mono ?_;rintro e w2 ⟨rfl,aj⟩;rw [HE.out]))
      go_roundw
      case rel =>
       refine ⟨k+1,by omega,by go_num,af ?_,hK.trans aj,aj.cell c0,aj.cell c1,aj.cell c2⟩;intro j hj aJ;by_cases e:j=k
       ·subst e;rw [<-ah.out,<-HQ.out];exact ar
       ·exact HF.out j hj (by omega)
      case measure=>simp [intOf];omega
     ·have HE:=af (show iV q=.iface 60 (.int .i64 q) from iF ar)
      go_wp2_with (first
       | (with_reducible refine wpList_load_mid rfl 41 _ rfl w.heap.size 0 rfl _ _ aA.out Tryz.underlying41 rfl (by kernel_rfl) ?_)
       | (go_at_call 71;refine aq.out.mono ?_;rintro e w2 ⟨rfl,aj⟩;rw [HE.out]))
      go_ret;refine ⟨?_,hK.trans aj⟩;have e1:=tn f.vars f.nodes k aF (fun j hj=>HF.out j (by omega) hj) (by rw [<-ah.out,<-HQ.out];exact ar)
      have e2:r=q:=by
       rw [az.out,jP,if_neg HH.out,if_neg aD.out];rw [<-ah.out,<-HQ.out] at e1;rw [<-ah.out,e1,if_neg ar]
      rw [e2,HE.out];rfl
    ·have aw:=qs f.vars f.nodes (fun j hj=>HF.out j hj (by have:=HN.out;omega));have aG:r=if pr f f.top then 0 else 10:=by rw [az.out,jP,if_neg HH.out,if_neg aD.out,if_pos aw]
     have ag:=BU _ f wr (HV.out.kept hK) (by rw [<-ah.out];exact h0) (by rw [<-ah.out];exact aC) f.top (by rw [<-ap.out];exact ht);unfold ot at ag;rw [<-ap.out,<-ah.out] at ag;have aq:=af ag;have aH:=af aG;clear ag aG aw;cases aB:pr f top with
     | true =>
      have ay:=af aB;clear aB
      go_wp2_with (first
       | (with_reducible refine wpList_load_mid rfl 41 _ rfl w.heap.size 0 rfl _ _ aA.out Tryz.underlying41 rfl (by kernel_rfl) ?_)
       | (go_at_call 72;refine aq.out.mono ?_;rintro e w2 ⟨rfl,aj⟩;rw [ay.out]))
      go_ret;exact ⟨by rw [aH.out,<-ap.out,ay.out];rfl,hK.trans aj⟩
     | false =>
      have ay:=af aB;clear aB
      go_wp2_with (first
       | (with_reducible refine wpList_load_mid rfl 41 _ rfl w.heap.size 0 rfl _ _ aA.out Tryz.underlying41 rfl (by kernel_rfl) ?_)
       | (go_at_call 72;refine aq.out.mono ?_;rintro e w2 ⟨rfl,aj⟩;rw [ay.out]))
      go_ret;exact ⟨by rw [aH.out,<-ap.out,ay.out];rfl,hK.trans aj⟩
end Go.Proofs.YtofibjflkebkpaaGreatDoor
