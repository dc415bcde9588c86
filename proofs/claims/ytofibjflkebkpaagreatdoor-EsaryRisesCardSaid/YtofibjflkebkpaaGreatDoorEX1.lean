import Derived.Test.YtofibjflkebkpaaGreatDoorRows
import Derived.WalkKit
import Derived.WalkSpells
import Derived.WalkLawsBesides
import Derived.Deep.QuietTactic
import Derived.BigQuiet
import Derived.Lib.Hide
import Derived.Shelf.Abstract
import Derived.Deep.RegionWith
import Derived.Laws.AppendOwnNone
import Derived.Lib.AppendZerosOnto
import Derived.Lib.SliceRun
import Derived.Lib.SlicesCompact
import Derived.Shelf.SlSortCmp.NoneTotal
import Derived.Test.YtofibjflkebkpaaGreatDoorShelf
import Derived.Maps.OwnOps
import Derived.Maps.OwnSet
import Derived.Maps.Views
import Derived.Deep.MidRow
set_option maxRecDepth 100000
set_option maxHeartbeats 16000000
namespace Go.Proofs.YtofibjflkebkpaaGreatDoor
open Go.RowKit
theorem af {p:Prop} (h:p):Hid p:=Lib.hid h
abbrev ag (w w':World):Prop:=Below w.heap.size w w'
theorem ag.refl (w:World):ag w w:=Below.refl _ _
theorem ag.trans {a b c:World} (h:ag a b) (k:ag b c):ag a c:=Below.trans h (Below.mono k h.size)
theorem ag.drew {a w:World} (h:ag a w):ag a w.drew:=Below.drew h
theorem ag.alloc {a w:World} (h:ag a w) (o:Obj):ag a (w.alloc o):=Below.alloc h h.size o
theorem ag.cell {w w':World} (h:ag w w') {p:Addr} {v:Value} (hc:w.cell? p=some v):w'.cell? p=some v :=
 (Below.cell h (World.block_lt_of_cell? w _ hc)).trans hc
theorem ag.drewN {a w:World} (h:ag a w) (n:Nat):ag a (w.drewN n):=⟨h.os,h.tape,h.output,h.size,h.block⟩
theorem ag.app {a b c:World} (h:ag a b) (k:Below a.heap.size b c):ag a c:=Below.trans h k
def am (w:World) (v:Value) (xs:List Int):Prop :=
 ∃ (a:Option Addr) (c:Nat),v=.slice a xs.length c/\(xs.length<=c/\(a=none->c=0))/\xs.length<=140737488355328 /\
  ∀ i (h:i<xs.length),∃ b o,a=some ⟨b,o,none⟩/\w.cell? ⟨b,o+i,none⟩=some (.int .i64 xs[i])
theorem am.kept {w w':World} {v:Value} {xs:List Int} (h:am w v xs) (hb:ag w w'):am w' v xs:=by
 obtain ⟨a,c,h1,h0,h2,h3⟩:=h;refine ⟨a,c,h1,h0,h2,fun i hi=>?_⟩;obtain ⟨b,o,h4,h5⟩:=h3 i hi;exact ⟨b,o,h4,hb.cell h5⟩
theorem am.shape {w:World} {v:Value} {xs:List Int} (h:am w v xs):∃ a n c,v=.slice a n c:=by
 obtain ⟨a,c,h1,_⟩:=h;exact ⟨a,_,c,h1⟩
theorem am.nil (w:World):am w (.slice none 0 0) []:=⟨none,0,rfl,⟨by simp,fun _=>rfl⟩,by simp,fun i h=>by simp at h⟩
def ix {α:Type} (R:World->Value->α->Prop) (w:World) (v:Value) (xs:List α):Prop :=
 ∃ (a:Option Addr) (c:Nat),v=.slice a xs.length c/\(xs.length<=c/\(a=none->c=0))/\xs.length<=140737488355328 /\
  ∀ i (h:i<xs.length),∃ b o u,a=some ⟨b,o,none⟩/\w.cell? ⟨b,o+i,none⟩=some u/\R w u xs[i]
theorem ix.kept {α:Type} {R:World->Value->α->Prop} (hR:∀ w w' u x,R w u x->ag w w'->R w' u x)
  {w w':World} {v:Value} {xs:List α} (h:ix R w v xs) (hb:ag w w'):ix R w' v xs:=by
 obtain ⟨a,c,h1,h0,h2,h3⟩:=h;refine ⟨a,c,h1,h0,h2,fun i hi=>?_⟩;obtain ⟨b,o,u,h4,h5,h6⟩:=h3 i hi;exact ⟨b,o,u,h4,hb.cell h5,hR _ _ _ _ h6 hb⟩
def aY (c:Nat):Value:=if c=0 then .nilIface else .iface 60 (.int .i64 c)
theorem aW:aY 0=.nilIface:=rfl
theorem aN {c:Nat} (h:c≠0):aY c=.iface 60 (.int .i64 c):=by simp [aY,h]
def OwnInts (w:World) (B:Nat) (v:Value) (xs:List Int):Prop :=
 w.ownsRow B 3 1 v xs.length (xs.map (Value.int .i64))/\xs.length<=140737488355328
theorem OwnInts.ints {w:World} {B:Nat} {v:Value} {xs:List Int} (h:OwnInts w B v xs):am w v xs:=by
 obtain ⟨⟨h1,h2⟩,h3⟩:=h;rcases h2 with ⟨rfl,h4⟩ | ⟨g,cap,cur,rfl,h5,h6,h7,h8,h9,h10⟩
 ·have:xs=[]:=List.eq_nil_of_length_eq_zero h4
  subst this;exact am.nil w
 ·refine ⟨_,cap,rfl,⟨h7,fun h=>by cases h⟩,h3,fun i hi=>⟨g,0,rfl,?_⟩⟩;have e1:(cur.toList.take (xs.length*1))[i]?=(xs.map (Value.int .i64))[i]?:=by rw [h10]
  rw [List.getElem?_take_of_lt (by omega)] at e1;simp only [World.cell?,h6,Nat.zero_add];simpa [hi] using e1
theorem fb {w w':World} {B:Nat} {e:TypeId} {size:Nat} {v:Value} {n:Nat} {xs:List Value} (h:w.ownsRow B e size v n xs) (hb:ag w w'):w'.ownsRow B e size v n xs:=by
 obtain ⟨h1,h2⟩:=h;refine ⟨h1,h2.imp id ?_⟩;rintro ⟨g,cap,cur,h3,h4,h5,h6⟩
 have hg:g<w.heap.size:=by
  rcases Nat.lt_or_ge g w.heap.size with h | h
  ·exact h
  ·simp [Array.getElem?_eq_none h] at h5
 exact ⟨g,cap,cur,h3,h4,(hb.block g hg).trans h5,h6⟩
theorem OwnInts.kept {w w':World} {B:Nat} {v:Value} {xs:List Int} (h:OwnInts w B v xs) (hb:ag w w'):OwnInts w' B v xs:=⟨fb h.1 hb,h.2⟩
theorem OwnInts.nil (w:World) (B:Nat):OwnInts w B (.slice none 0 0) []:=⟨World.ownsRow_nil _ _ _ _,by simp⟩
theorem lK {w:World} {B B':Nat} {e:TypeId} {size:Nat} {v:Value} {n:Nat} {xs:List Value} (h:w.ownsRow B e size v n xs) (hb:B'<=B):w.ownsRow B' e size v n xs:=by
 obtain ⟨h1,h2⟩:=h;refine ⟨h1,h2.imp id ?_⟩;rintro ⟨g,cap,cur,h3,h4,h5⟩;exact ⟨g,cap,cur,h3,by omega,h5⟩
theorem OwnInts.mono {w:World} {B B':Nat} {v:Value} {xs:List Int} (h:OwnInts w B v xs) (hb:B'<=B):OwnInts w B' v xs:=⟨lK h.1 hb,h.2⟩
theorem bf {B:Nat} {w w':World} {v:Value} {e:TypeId} {size n:Nat} {xs:List Value} (hg:w.grownBy w' v.ownBlock) (ho:w.ownsRow B e size v n xs) (hB:B<=w.heap.size):Below B w w' :=
 Below.grown (Below.refl _ _) hg hB fun k hk=>(ho.lt k hk).1
section
open Go.RowKit
theorem eX:(Tryz.prog.info? 3).map (fun i=>(i.zero,i.size,i.bytes))=some (some (.int .i64 0),1,8):=by kernel_rfl
theorem mw:(Tryz.prog.info? 22).map (fun i=>(i.zero,i.size,i.bytes))=some (some (.slice none 0 0),1,24):=by kernel_rfl
variable {ops:Array Oper} {rest:List Oper} {o:Oper} {a:Act} {Q:Exit->Act->World->Prop} {w:World}
theorem nQ (t e:TypeId) (z:Value) (bytes:Nat) (hi:(Tryz.prog.info? e).map (fun i=>(i.zero,i.size,i.bytes))=some (some z,1,bytes)) (ht:Tryz.prog.underlying t=some (.slice e)) (hz:z.cells.size=1) (hgd:o.guard=none) (s x:Operand)
  (ho:o.op=.call { callee:=.builtin .append,args:=#[s,x],argTypes:=#[t,t] }) (B:Nat) (v:Value) (xs:List Value) (hs:a.eval s=v) (hown:w.ownsRow B e 1 v xs.length xs)
  (ad:Addr) (y:Value) (hx:a.eval x=.slice (some ad) 1 1) (hc:w.cell? ad=some y) (h1:y.oneCell'=true) (hl:(xs.length+1)*bytes<=140737488355328) (hl2:xs.length+1<=maxLen) (hB:B<=w.heap.size)
  (h:∀ v' w',w'.ownsRow B e 1 v' (xs++[y]).length (xs++[y])->w.grownBy w' v.ownBlock->Below B w w'->wpList Tryz.prog ops Q rest (a.put o.dst v') w'):wpList Tryz.prog ops Q (o :: rest) a w:=by
 obtain ⟨i0,hi0,hz0,hz1,hz2⟩:=info_parts hi;refine wpList_append_own _ hgd s x t ho B e i0 z 1 bytes ht hi0 hz0 hz1 hz2 hz (by decide) v xs.length xs hs hown ad 1 1 [y] hx rfl ?_ ?_ hl2 hl hB ?_
 ·intro j u hj
  match j,hj with
  | 0,hj=>simp at hj;subst hj;simpa [Addr.add] using hc
 ·intro u hu;simp at hu;subst hu;exact h1
 ·intro v' w' h2 h3 _;refine h v' w' ?_ h3 (bf h3 hown hB);simpa using h2
theorem eA (hgd:o.guard=none) (s x:Operand)
  (ho:o.op=.call { callee:=.builtin .append,args:=#[s,x],argTypes:=#[22,22] }) (B:Nat) (v:Value) (xs:List Int) (hs:a.eval s=v) (hown:OwnInts w B v xs)
  (ad:Addr) (y:Int) (hx:a.eval x=.slice (some ad) 1 1) (hc:w.cell? ad=some (.int .i64 y)) (hl:xs.length<17592186044416) (hB:B<=w.heap.size)
  (h:∀ v' w',OwnInts w' B v' (xs++[y])->w.grownBy w' v.ownBlock->Below B w w'->wpList Tryz.prog ops Q rest (a.put o.dst v') w'):wpList Tryz.prog ops Q (o :: rest) a w:=by
 refine nQ 22 3 _ 8 eX Tryz.underlying22 rfl hgd s x ho B v (xs.map (.int .i64)) hs (by simpa using hown.1) ad _ hx hc rfl (by simp;omega) (by simp [maxLen];omega) hB ?_;intro v' w' h2 h3 h4;refine h v' w' ⟨?_,by simp;omega⟩ h3 h4;simpa using h2
theorem fS (hgd:o.guard=none) (s x:Operand)
  (ho:o.op=.call { callee:=.builtin .append,args:=#[s,x],argTypes:=#[22,22] }) (B:Nat) (v:Value) (xs:List Int) (hs:a.eval s=v) (hown:OwnInts w B v xs)
  (u:Value) (ys:List Int) (hx:a.eval x=u) (hu:am w u ys) (hl:xs.length+ys.length<=17592186044416) (hB:B<=w.heap.size)
  (h:∀ v' w',OwnInts w' B v' (xs++ys)->(∀ k,k<w.heap.size->some k≠v.ownBlock->w'.heap[k]?=w.heap[k]?)->Below B w w'->wpList Tryz.prog ops Q rest (a.put o.dst v') w'):wpList Tryz.prog ops Q (o :: rest) a w:=by
 obtain ⟨i0,hi0,hz0,hz1,hz2⟩:=info_parts eX;obtain ⟨ad,c,rfl,⟨hc,hcn⟩,hl2,hcell⟩:=hu;cases ad with
 | none =>
  have hy:ys=[]:=by
   cases ys with
   | nil=>rfl
   | cons y ys=>obtain ⟨b,o,h,_⟩:=hcell 0 (by simp);cases h
  subst hy;rw [hcn rfl] at hx;refine wpList_append_own_none hgd s x 22 ho B 3 i0 1 Tryz.underlying22 hi0 v xs.length _ hs hown.1 hx ?_;exact h v w (by simpa using hown) (fun _ _ _=>rfl) (Below.refl _ _)
 | some ad =>
  refine wpList_append_own _ hgd s x 22 ho B 3 i0 _ 1 8 Tryz.underlying22 hi0 hz0 hz1 hz2 rfl (by decide) v xs.length _ hs hown.1 ad ys.length c (ys.map (.int .i64)) hx (by simp) ?_ ?_ (by simp [maxLen];omega) (by omega) hB ?_
  ·intro j u hj
   have hj':j<ys.length:=by
    rcases Nat.lt_or_ge j ys.length with h | h
    ·exact h
    ·rw [List.getElem?_eq_none (by simpa using h)] at hj;cases hj
   obtain ⟨b,o,h1,h2⟩:=hcell j hj';cases h1;simp [hj'] at hj;subst hj;rcases Nat.eq_zero_or_pos j with h0 | h0
   ·subst h0;simpa [Addr.add] using h2
   ·simpa [Addr.add,Nat.ne_of_gt h0] using h2
  ·intro u hu;obtain ⟨y,_,rfl⟩:=List.mem_map.1 hu;rfl
  ·intro v' w' h2 h3 _;refine h v' w' ⟨by simpa using h2,by simp;omega⟩ (fun k hk hne=>h3.block k hk hne) (bf h3 hown.1 hB)
end
theorem mV (s:Int) (w:World):Calls Tryz.prog 217 #[.int .i64 s] w fun e w'=>e=.returned (.bool (decide (0<=s/\s<=16777215)))/\w=w':=by
 by_cases h:0<=s
 ·by_cases h2:s<=16777215
  all_goals
   go_enter Tryz.func217,Tryz.ntmps217;go_wp2;go_ret;exact ⟨by simp [h,h2],rfl⟩
 ·go_enter Tryz.func217,Tryz.ntmps217;go_wp2;go_ret;exact ⟨by congr 2;simp;omega,rfl⟩
theorem wV (s:Int) (w:World):Calls Tryz.prog 135 #[.int .i64 s] w fun e w'=>e=.returned (.int .i64 (bits .and .i64 s 16777215))/\w=w':=by
 go_enter Tryz.func135,Tryz.ntmps135;go_wp2;go_ret;exact ⟨rfl,rfl⟩
def vJ (a b:Int):Bool:=bits .andNot .i64 (bits .and .i64 a 16777215) b == 0
theorem vK (a b:Int) (w:World):Calls Tryz.prog 221 #[.int .i64 a,.int .i64 b] w fun e w'=>e=.returned (.bool (vJ a b))/\w=w':=by
 go_enter Tryz.func221,Tryz.ntmps221;go_wp2_with (go_at_call 135;refine (wV _ _).mono ?_;rintro e w' ⟨rfl,rfl⟩);go_ret;exact ⟨rfl,rfl⟩
def qS (g:Nat) (lb:Array Value) (p:Int->Bool) (w:World):Prop :=
 ∀ (W:World) (x:Int),ag w W->Calls Tryz.prog g (#[.int .i64 x]++lb) W fun e W'=>e=.returned (.bool (p x))/\ag W W'
theorem rg (g:Nat) (lb:Array Value) (eg:∀ args w,(callFunc g args).run Tryz.prog w=.ok (.enter g args) w) (p:Int->Bool) (v:Value) (xs:List Int) (w:World)
  (hp:qS g lb p w) (hv:am w v xs) :
  Calls Tryz.prog 257 #[v,.func (.func g) #[] lb] w fun e w'=>(∃ n:Int,e=.returned (.int .i64 n)/\(decide (0<=n)=xs.any p))/\ag w w':=by
 obtain ⟨a,c,rfl,⟨hc,_⟩,hl,hx⟩:=hv;obtain ⟨n,hn⟩:∃ n,n=xs.length:=⟨_,rfl⟩;have hbig:n<=140737488355328:=by omega
 rw [<-hn];have HX:=af hx;have HN:=af hn;have HP:=af hp;clear hx hn hp hl hc;go_enter Tryz.func257,Tryz.ntmps257;go_wp2;go_loopw [5,8] (fun _ i wr=>∃ k:Nat,k<=n/\i=.int .i64 k/\Hid (∀ x∈xs.take k,p x=false)/\ag w wr) (fun _ i _=>n - (intOf i).toNat)
 case atStart=>exact ⟨0,Nat.zero_le _,rfl,af (by simp),ag.refl _⟩
 case round =>
  obtain ⟨k,hk,rfl,HF,hK⟩:=hrel;by_cases hlt:k<n
  ·have hkx:k<xs.length:=by have:=HN.out;omega
   obtain ⟨b,o,rfl,hcell⟩:=HX.out k hkx;have hcell':=hK.cell hcell;obtain ⟨x,hxx⟩:∃ x,x=xs[k]:=⟨_,rfl⟩;rw [<-hxx] at hcell hcell';have HXX:=af hxx;clear hxx hcell;cases hq:p x with
   | true =>
    have hcall:=fun W h=>HP.out W x h
    rw [hq] at hcall;have HC:=af hcall;clear hcall;go_wp2_with (go_at_fn g;refine (HC.out _ hK).mono ?_;rintro e w' ⟨rfl,hK2⟩);go_ret;refine ⟨⟨k,rfl,?_⟩,hK.trans hK2⟩
    have:xs.any p=true:=List.any_eq_true.2 ⟨x,by rw [HXX.out];exact List.getElem_mem _,hq⟩
    rw [this];simp
   | false =>
    have hcall:=fun W h=>HP.out W x h
    rw [hq] at hcall;have HC:=af hcall;clear hcall;go_wp2_with (go_at_fn g;refine (HC.out _ hK).mono ?_;rintro e w' ⟨rfl,hK2⟩);go_roundw
    case rel =>
     refine ⟨k+1,by omega,by go_num,af ?_,hK.trans hK2⟩;intro y hy;rw [List.take_succ_eq_append_getElem hkx] at hy;rcases List.mem_append.1 hy with hy | hy
     ·exact HF.out y hy
     ·simp at hy;rw [hy,<-HXX.out];exact hq
    case measure=>simp [intOf];omega
  ·go_wp2;go_ret;refine ⟨⟨-1,rfl,?_⟩,hK⟩;have hh:=HF.out;rw [List.take_of_length_le (by have:=HN.out;omega)] at hh
   have:xs.any p=false:=by rw [List.any_eq_false];intro y hy;simp [hh y hy]
   rw [this];rfl
theorem wX (g:Nat) (lb:Array Value) (eg:∀ args w,(callFunc g args).run Tryz.prog w=.ok (.enter g args) w) (p:Int->Bool) (v:Value) (xs:List Int) (w:World)
  (hp:qS g lb p w) (hv:am w v xs) :
  Calls Tryz.prog 219 #[v,.func (.func g) #[] lb] w fun e w'=>e=.returned (.bool (xs.any p))/\ag w w':=by
 have h:=rg g lb eg p v xs w hp hv;have H:=af h;clear h hp hv eg;obtain ⟨r,hr⟩:∃ r,r=xs.any p:=⟨_,rfl⟩;rw [<-hr] at H⊢;clear hr;go_enter Tryz.func219,Tryz.ntmps219;go_wp2_with (go_at_call 257;refine H.out.mono ?_;rintro e w' ⟨⟨n,rfl,hn⟩,hK⟩;have HN:=af hn;clear hn);go_ret;exact ⟨by rw [<-HN.out];rfl,hK⟩
theorem nh (s:Int) (B:Nat) (w:World) (hc:w.cell? ⟨B,0,none⟩=some (.int .i64 s)):qS 220 #[.pointer (some ⟨B,0,none⟩)] (fun t=>vJ t s) w:=by
 intro W x hK;have hc':=hK.cell hc;clear hc;go_enter Tryz.func220,Tryz.ntmps220;go_wp2_with (go_at_call 221;refine (vK _ _ _).mono ?_;rintro e w' ⟨rfl,rfl⟩);go_ret;exact ⟨rfl,ag.refl _⟩
def dH (out:List Int) (s:Int):List Int:=if out.any (fun t=>vJ t s) then out else out++[s]
def oL (l:List Int):List Int:=l.foldl dH []
theorem sD (l:List Int):∀ out,(l.foldl dH out).length<=out.length+l.length:=by
 induction l with
 | nil=>intro out;simp
 | cons s l ih =>
  intro out;simp only [List.foldl_cons,List.length_cons];refine Nat.le_trans (ih _) ?_;unfold dH;split <;> simp <;> omega
theorem uN (l:List Int) (k:Nat) (h:k<l.length):oL (l.take (k+1))=dH (oL (l.take k)) l[k]:=by
 unfold oL;rw [List.take_succ_eq_append_getElem h,List.foldl_append];rfl
theorem sQ (v:Value) (w:World) (xs:List Int) (hx:xs.length<=8796093022208)
  (hs:Calls Tryz.prog 154 #[v] w fun e w'=>∃ v',e=.returned v'/\am w' v' xs/\ag w w') :
  Calls Tryz.prog 155 #[v] w fun e w'=>∃ v',e=.returned v'/\OwnInts w' w.heap.size v' (oL xs)/\ag w w':=by
 have HS:=af hs;clear hs;obtain ⟨n,hn⟩:∃ n,n=xs.length:=⟨_,rfl⟩;rw [<-hn] at hx;have HN:=af hn;clear hn;go_enter Tryz.func155,Tryz.ntmps155;go_wp2_with (go_at_call 154;refine HS.out.mono ?_;rintro e w1 ⟨v',rfl,hI,hK1⟩;obtain ⟨a,c,rfl,⟨hc,_⟩,hl,hcell⟩:=hI;have HX:=af hcell;clear hcell hc hl;rw [<-HN.out]);go_loopw [3,9] (fun v i wr=>∃ k:Nat,k<=n/\i=.int .i64 k/\OwnInts wr w1.heap.size v (oL (xs.take k))/\ag w1 wr) (fun _ i _=>n - (intOf i).toNat)
 case atStart=>exact ⟨0,Nat.zero_le _,rfl,OwnInts.nil _ _,ag.refl _⟩
 case round =>
  obtain ⟨k,hk,rfl,hown,hK⟩:=hrel;have hB:=hK.size;by_cases hlt:k<n
  ·have hkx:k<xs.length:=by have:=HN.out;omega
   obtain ⟨b,o,rfl,hc0⟩:=HX.out k hkx;have hcell:=hK.cell hc0;obtain ⟨s,hs⟩:∃ x,x=xs[k]:=⟨_,rfl⟩;rw [<-hs] at hcell hc0;have hstep:=uN xs k hkx;rw [<-hs] at hstep;have hlen:=sD (xs.take k) [];obtain ⟨m,hm⟩:∃ m,m=oL (xs.take k):=⟨_,rfl⟩;have hml:m.length<=k:=by rw [hm];refine Nat.le_trans hlen ?_;simp;omega
   rw [<-hm] at hown hstep;have HSt:=af hstep;clear hstep hlen hs hm hc0;have HO:=af hown;clear hown;cases hq:m.any (fun t=>vJ t s) with
   | true =>
    have HQ:=af hq;clear hq;go_wp2_with (go_at_call 219;refine (wX _ _ (enters_of Tryz.func220 (by kernel_rfl) rfl) _ _ m _ (nh s _ _ (by simp)) ((HO.out.kept ((ag.refl _).alloc _)).ints)).mono ?_;rintro e w2 ⟨rfl,hK2⟩;rw [HQ.out]);go_roundw
    case rel=>exact ⟨k+1,by omega,by go_num,by rw [HSt.out,dH,HQ.out];exact HO.out.kept (((ag.refl _).alloc _).trans hK2),hK.trans (((ag.refl _).alloc _).trans hK2)⟩
    case measure=>simp [intOf];omega
   | false =>
    have HQ:=af hq;clear hq
    go_wp2_with (first
     | (go_at_call 219;refine (wX _ _ (enters_of Tryz.func220 (by kernel_rfl) rfl) _ _ m _ (nh s _ _ (by simp)) ((HO.out.kept ((ag.refl _).alloc _)).ints)).mono ?_;rintro e w2 ⟨rfl,hK2⟩;rw [HQ.out];have hbox:=hK2.cell (p:=⟨wr.heap.size,0,none⟩) (v:=.int .i64 s) (by simp);have hz:=hK2.size)
     | (at_builtin;refine eA rfl _ _ rfl w1.heap.size _ m rfl (HO.out.kept ((((ag.refl _).alloc _).trans hK2).alloc _)) _ s rfl (by simp) (by omega) (by simp at hz⊢;omega) ?_;intro v' w3 hown3 hg3 hb3))
    go_roundw
    case rel=>exact ⟨k+1,by omega,by go_num,by rw [HSt.out,dH,HQ.out];exact hown3,(hK.trans ((((ag.refl _).alloc _).trans hK2).alloc _)).app hb3⟩
    case measure=>simp [intOf];omega
  ·go_wp2;go_ret;have e:k=n:=by omega
   subst e;rw [List.take_of_length_le (by have:=HN.out;omega)] at hown;exact ⟨_,rfl,hown.mono hK1.size,hK1.trans hK⟩
theorem wrap_u64 (n:Nat) (h:n<18446744073709551616):IntKind.u64.wrap (n:Int)=n:=by
 have h1:IntKind.u64.wrap (n:Int)=(n:Int) % 18446744073709551616:=rfl;rw [h1];omega
theorem wrap_i64 (x:Int) (h0:0<=x) (h:x<9223372036854775808):IntKind.i64.wrap x=x:=by
 rw [IntKind.wrap_i64];omega
theorem br (n:Nat) (h:n<18446744073709551616):(BitVec.ofInt 64 (n:Int)).toNat=n:=by
 simp;omega
theorem dE (a b:Nat) (ha:a<18446744073709551616) (hb:b<18446744073709551616):bits .and .u64 (a:Int) (b:Int)=((a &&& b:Nat):Int):=by
 have h:(BitVec.ofInt 64 (a:Int) &&& BitVec.ofInt 64 (b:Int)).toNat=a &&& b:=by rw [BitVec.toNat_and,br a ha,br b hb]
 show IntKind.u64.wrap (((BitVec.ofInt 64 (a:Int) &&& BitVec.ofInt 64 (b:Int)).toNat:Nat):Int)=_;rw [h];exact wrap_u64 _ (Nat.lt_of_le_of_lt Nat.and_le_left ha)
theorem jz (a b:Nat) (ha:a<9223372036854775808) (hb:b<9223372036854775808):bits .and .i64 (a:Int) (b:Int)=((a &&& b:Nat):Int):=by
 have h:(BitVec.ofInt 64 (a:Int) &&& BitVec.ofInt 64 (b:Int)).toNat=a &&& b:=by rw [BitVec.toNat_and,br a (by omega),br b (by omega)]
 show IntKind.i64.wrap (((BitVec.ofInt 64 (a:Int) &&& BitVec.ofInt 64 (b:Int)).toNat:Nat):Int)=_;rw [h];have:=Nat.and_le_left (n:=a) (m:=b);exact wrap_i64 _ (by omega) (by omega)
theorem AK (a b:Nat) (ha:a<9223372036854775808) (hb:b<9223372036854775808):bits .or .i64 (a:Int) (b:Int)=((a ||| b:Nat):Int):=by
 have h:(BitVec.ofInt 64 (a:Int) ||| BitVec.ofInt 64 (b:Int)).toNat=a ||| b:=by rw [BitVec.toNat_or,br a (by omega),br b (by omega)]
 show IntKind.i64.wrap (((BitVec.ofInt 64 (a:Int) ||| BitVec.ofInt 64 (b:Int)).toNat:Nat):Int)=_;rw [h];have:=Nat.or_lt_two_pow (n:=63) (x:=a) (y:=b) (by omega) (by omega);exact wrap_i64 _ (by omega) (by omega)
def bk (a b:Nat):Nat:=a ^^^ (a &&& b)
theorem nX (a b:Nat) (ha:a<9223372036854775808) (hb:b<9223372036854775808):bits .andNot .i64 (a:Int) (b:Int)=((bk a b:Nat):Int):=by
 have h:(BitVec.ofInt 64 (a:Int) &&& ~~~ BitVec.ofInt 64 (b:Int)).toNat=bk a b:=by
  have e:BitVec.ofInt 64 (a:Int) &&& ~~~ BitVec.ofInt 64 (b:Int)=BitVec.ofInt 64 (a:Int) ^^^ (BitVec.ofInt 64 (a:Int) &&& BitVec.ofInt 64 (b:Int)):=by
   ext i hi
   simp only [BitVec.getElem_and,BitVec.getElem_not,BitVec.getElem_xor];cases (BitVec.ofInt 64 (a:Int))[i] <;> cases (BitVec.ofInt 64 (b:Int))[i] <;> rfl
  rw [e,BitVec.toNat_xor,BitVec.toNat_and,br a (by omega),br b (by omega)];rfl
 show IntKind.i64.wrap (((BitVec.ofInt 64 (a:Int) &&& ~~~ BitVec.ofInt 64 (b:Int)).toNat:Nat):Int)=_;rw [h];have h2:bk a b<2^63:=Nat.xor_lt_two_pow (by omega) (Nat.lt_of_le_of_lt Nat.and_le_left (by omega));exact wrap_i64 _ (by omega) (by omega)
def pc (n:Nat):Nat:=if n=0 then 0 else n % 2+pc (n / 2)
decreasing_by omega
theorem fq (h l H L:Nat) (hl:l<256) (hL:L<256):(256*h+l) &&& (256*H+L)=256*(h &&& H)+(l &&& L):=by
 have h1:((256*h+l) &&& (256*H+L)) % 2^8=l &&& L:=by
  rw [Nat.and_mod_two_pow];congr 1 <;> omega
 have h2:((256*h+l) &&& (256*H+L)) / 2^8=h &&& H:=by
  rw [Nat.and_div_two_pow];congr 1 <;> omega
 have:=Nat.div_add_mod ((256*h+l) &&& (256*H+L)) (2^8);rw [h1,h2] at this;omega
theorem fR (a b c m:Nat) (ha:a<256) (hb:b<256) (M:Nat) (hm:m<256) (hM:M=256*(256*(256*(M / 16777216)+m)+m)+m) (hc:c<256) :
  (a+256*b+65536*c) &&& M=(a &&& m)+256*(b &&& m)+65536*(c &&& m):=by
 rw [hM,show a+256*b+65536*c=256*(256*c+b)+a from by omega,fq _ _ _ _ ha hm,fq _ _ _ _ hb hm,
  show c=256*0+c from by omega,fq _ _ _ _ hc hm]
 simp;omega
def t1 (a:Nat):Nat:=(a / 2 &&& 0x55)+(a &&& 0x55)
def t2 (a:Nat):Nat:=(a / 4 &&& 0x33)+(a &&& 0x33)
def t3 (a:Nat):Nat:=(a / 16+a) &&& 15
theorem m_:∀ a<256,(a / 2 &&& 0x55)=((a / 2+128) &&& 0x55)/\t1 a<171:=by decide
theorem nc:∀ a<171,∀ r<4,(a / 4 &&& 0x33)=((a / 4+64*r) &&& 0x33)/\t2 a<103/\t2 a % 16<7:=by decide
theorem wN:∀ a<103,∀ r<7,(a / 16+16*r+a) &&& 15=(t3 a)/\t3 a<16:=by decide
theorem nR:∀ a<256,t3 (t2 (t1 a))<9:=by decide
def s1 (x:Int):Int:=IntKind.u64.wrap (bits .and .u64 (x / 2) 6148914691236517205+bits .and .u64 x 6148914691236517205)
def s2 (x:Int):Int:=IntKind.u64.wrap (bits .and .u64 (x / 4) 3689348814741910323+bits .and .u64 x 3689348814741910323)
def s3 (x:Int):Int:=bits .and .u64 (IntKind.u64.wrap (x / 16+x)) 1085102592571150095
def s4 (x:Int):Int:=IntKind.u64.wrap (x+x / 256)
def s5 (x:Int):Int:=IntKind.u64.wrap (x+x / 65536)
def s6 (x:Int):Int:=IntKind.u64.wrap (x+x / 4294967296)
theorem Bw (a b c:Nat) (ha:a<256) (hb:b<256) (hc:c<256):s1 ((a+256*b+65536*c:Nat):Int)=((t1 a+256*t1 b+65536*t1 c:Nat):Int):=by
 have e1:((a+256*b+65536*c:Nat):Int) / 2=(((a / 2+128*(b % 2))+256*(b / 2+128*(c % 2))+65536*(c / 2):Nat):Int):=by omega
 have hb2:b % 2=0\/b % 2=1:=by omega
 have hc2:c % 2=0\/c % 2=1:=by omega
 have ka:=m_ a ha;have kb:=m_ b hb;have kc:=m_ c hc;unfold s1
 rw [e1,show (6148914691236517205:Int)=((6148914691236517205:Nat):Int) from rfl,dE _ _ (by omega) (by decide),dE _ _ (by omega) (by decide),
  fR _ _ _ 0x55 (by omega) (by omega) _ (by decide) (by decide) (by omega),fR _ _ _ 0x55 ha hb _ (by decide) (by decide) hc]
 have ea:(a / 2+128*(b % 2)) &&& 0x55=a / 2 &&& 0x55:=by
  rcases hb2 with h | h <;> rw [h]
  ·rfl
  ·exact ka.1.symm
 have eb:(b / 2+128*(c % 2)) &&& 0x55=b / 2 &&& 0x55:=by
  rcases hc2 with h | h <;> rw [h]
  ·rfl
  ·exact kb.1.symm
 rw [ea,eb];have ja:=ka.2;have jb:=kb.2;have jc:=kc.2;unfold t1 at *;rw [show (((a / 2 &&& 85)+256*(b / 2 &&& 85)+65536*(c / 2 &&& 85):Nat):Int)+(((a &&& 85)+256*(b &&& 85)+65536*(c &&& 85):Nat):Int)=((((a / 2 &&& 85)+(a &&& 85))+256*((b / 2 &&& 85)+(b &&& 85))+65536*((c / 2 &&& 85)+(c &&& 85)):Nat):Int) from by omega];exact wrap_u64 _ (by omega)
theorem Bx (a b c:Nat) (ha:a<171) (hb:b<171) (hc:c<171):s2 ((a+256*b+65536*c:Nat):Int)=((t2 a+256*t2 b+65536*t2 c:Nat):Int):=by
 have e1:((a+256*b+65536*c:Nat):Int) / 4=(((a / 4+64*(b % 4))+256*(b / 4+64*(c % 4))+65536*(c / 4):Nat):Int):=by omega
 have ka:=nc a ha (b % 4) (by omega);have kb:=nc b hb (c % 4) (by omega);have kc:=nc c hc 0 (by omega);unfold s2
 rw [e1,show (3689348814741910323:Int)=((3689348814741910323:Nat):Int) from rfl,dE _ _ (by omega) (by decide),dE _ _ (by omega) (by decide),
  fR _ _ _ 0x33 (by omega) (by omega) _ (by decide) (by decide) (by omega),fR _ _ _ 0x33 (by omega) (by omega) _ (by decide) (by decide) (by omega),<-ka.1,<-kb.1]
 have ja:=ka.2.1;have jb:=kb.2.1;have jc:=kc.2.1;clear ka kb kc e1;unfold t2 at *;rw [show (((a / 4 &&& 51)+256*(b / 4 &&& 51)+65536*(c / 4 &&& 51):Nat):Int)+(((a &&& 51)+256*(b &&& 51)+65536*(c &&& 51):Nat):Int)=((((a / 4 &&& 51)+(a &&& 51))+256*((b / 4 &&& 51)+(b &&& 51))+65536*((c / 4 &&& 51)+(c &&& 51)):Nat):Int) from by omega];exact wrap_u64 _ (by omega)
theorem Bz (a b c:Nat) (ha:a<103) (hb:b<103) (hc:c<103) (hb6:b % 16<7) (hc6:c % 16<7):s3 ((a+256*b+65536*c:Nat):Int)=((t3 a+256*t3 b+65536*t3 c:Nat):Int):=by
 have e1:((a+256*b+65536*c:Nat):Int) / 16+((a+256*b+65536*c:Nat):Int)=(((a / 16+16*(b % 16)+a)+256*(b / 16+16*(c % 16)+b)+65536*(c / 16+c):Nat):Int):=by omega
 have ka:=wN a ha (b % 16) hb6;have kb:=wN b hb (c % 16) hc6;have kc:=wN c hc 0 (by omega);unfold s3
 rw [e1,wrap_u64 _ (by omega),show (1085102592571150095:Int)=((1085102592571150095:Nat):Int) from rfl,dE _ _ (by omega) (by decide),
  fR _ _ _ 0x0f (by omega) (by omega) _ (by decide) (by decide) (by omega),ka.1,kb.1,show c / 16+c=c / 16+16*0+c from by omega,kc.1]
def Ds (x:Int):Int:=bits .and .i64 (wrap64 (s6 (s5 (s4 (s3 (s2 (s1 x))))))) 127
def EU (n:Nat):Nat:=t3 (t2 (t1 (n % 256)))+t3 (t2 (t1 (n / 256 % 256)))+t3 (t2 (t1 (n / 65536)))
theorem DY (n:Nat) (h:n<16777216):Ds (n:Int)=(EU n:Nat):=by
 unfold Ds EU;obtain ⟨a,ha⟩:∃ a,a=n % 256:=⟨_,rfl⟩;obtain ⟨b,hb⟩:∃ b,b=n / 256 % 256:=⟨_,rfl⟩;obtain ⟨c,hc⟩:∃ c,c=n / 65536:=⟨_,rfl⟩;rw [<-ha,<-hb,<-hc];have e:n=a+256*b+65536*c:=by omega
 have la:a<256:=by omega
 have lb:b<256:=by omega
 have lc:c<256:=by omega
 clear ha hb hc h;subst e;have a1:=(m_ a la).2;have b1:=(m_ b lb).2;have c1:=(m_ c lc).2;have a2:=(nc _ a1 0 (by omega)).2;have b2:=(nc _ b1 0 (by omega)).2;have c2:=(nc _ c1 0 (by omega)).2;have a3:=nR a la;have b3:=nR b lb;have c3:=nR c lc;rw [Bw a b c la lb lc,Bx _ _ _ a1 b1 c1,Bz _ _ _ a2.1 b2.1 c2.1 b2.2 c2.2];generalize t3 (t2 (t1 a))=x at *;generalize t3 (t2 (t1 b))=y at *;generalize t3 (t2 (t1 c))=z at *;clear a1 b1 c1 a2 b2 c2 la lb lc
 have f4:s4 ((x+256*y+65536*z:Nat):Int)=((x+y+256*(y+z)+65536*z:Nat):Int):=by
  unfold s4;rw [show ((x+256*y+65536*z:Nat):Int)+((x+256*y+65536*z:Nat):Int) / 256=((x+y+256*(y+z)+65536*z:Nat):Int) from by omega];exact wrap_u64 _ (by omega)
 have f5:s5 ((x+y+256*(y+z)+65536*z:Nat):Int)=((x+y+z+256*(y+z)+65536*z:Nat):Int):=by
  unfold s5;rw [show ((x+y+256*(y+z)+65536*z:Nat):Int)+((x+y+256*(y+z)+65536*z:Nat):Int) / 65536=((x+y+z+256*(y+z)+65536*z:Nat):Int) from by omega];exact wrap_u64 _ (by omega)
 have f6:s6 ((x+y+z+256*(y+z)+65536*z:Nat):Int)=((x+y+z+256*(y+z)+65536*z:Nat):Int):=by
  unfold s6;rw [show ((x+y+z+256*(y+z)+65536*z:Nat):Int)+((x+y+z+256*(y+z)+65536*z:Nat):Int) / 4294967296=((x+y+z+256*(y+z)+65536*z:Nat):Int) from by omega];exact wrap_u64 _ (by omega)
 rw [f4,f5,f6,show wrap64 ((x+y+z+256*(y+z)+65536*z:Nat):Int)=((x+y+z+256*(y+z)+65536*z:Nat):Int) from by unfold wrap64;omega,show (127:Int)=((127:Nat):Int) from rfl,jz _ _ (by omega) (by decide)];rw [show (127:Nat)=2^7 - 1 from rfl,Nat.and_two_pow_sub_one_eq_mod];omega
theorem gL:pc 0=0:=by rw [pc,if_pos rfl]
theorem cw (m:Nat):pc m=m % 2+pc (m / 2):=by
 by_cases h0:m=0
 ·subst h0;rw [gL]
 ·rw [pc,if_neg h0]
theorem gK (n h:Nat) (hn:n<256):pc (256*h+n)=pc n+pc h:=by
 have key:∀ k n,n<2^k->∀ h,pc (2^k*h+n)=pc n+pc h:=by
  intro k;induction k with
  | zero =>
       intro n hn h;have:n=0:=by simpa using hn
       subst this;rw [gL];simp
  | succ k ih =>
   intro n hn h;rw [cw,cw n];have e1:(2^(k+1)*h+n) % 2=n % 2:=by rw [Nat.pow_succ,Nat.mul_comm (2^k) 2,Nat.mul_assoc];omega
   have e2:(2^(k+1)*h+n) / 2=2^k*h+n / 2:=by rw [Nat.pow_succ,Nat.mul_comm (2^k) 2,Nat.mul_assoc];omega
   rw [e1,e2,ih (n / 2) (by rw [Nat.pow_succ] at hn;omega) h];omega
 exact key 8 n hn h
theorem rD:∀ a<256,t3 (t2 (t1 a))=pc a:=by
 have e:∀ a,a<256->pc a=a % 2+(a / 2 % 2+(a / 4 % 2+(a / 8 % 2+(a / 16 % 2+(a / 32 % 2+(a / 64 % 2+a / 128 % 2)))))):=by
  intro a ha;rw [cw a,cw (a / 2),cw (a / 2 / 2),cw (a / 2 / 2 / 2),cw (a / 2 / 2 / 2 / 2),cw (a / 2 / 2 / 2 / 2 / 2),cw (a / 2 / 2 / 2 / 2 / 2 / 2),cw (a / 2 / 2 / 2 / 2 / 2 / 2 / 2)];rw [show a / 2 / 2 / 2 / 2 / 2 / 2 / 2 / 2=0 from by omega,gL];omega
 have d:∀ a<256,t3 (t2 (t1 a))=a % 2+(a / 2 % 2+(a / 4 % 2+(a / 8 % 2+(a / 16 % 2+(a / 32 % 2+(a / 64 % 2+a / 128 % 2)))))):=by
  set_option maxRecDepth 100000 in decide
 intro a ha;rw [d a ha,e a ha]
theorem DX (n:Nat) (h:n<16777216):EU n=pc n:=by
 unfold EU;rw [rD _ (by omega),rD _ (by omega),rD _ (by omega)];have e1:=gK (n % 256) (n / 256) (by omega);have e2:=gK (n / 256 % 256) (n / 65536) (by omega);rw [show 256*(n / 256)+n % 256=n from by omega] at e1;rw [show 256*(n / 65536)+n / 256 % 256=n / 256 from by omega] at e2;omega
theorem DZ (n:Nat) (h:n<16777216):Ds (n:Int)=(pc n:Nat):=by rw [DY n h,DX n h]
theorem mz (x:Int) (w:World):Calls Tryz.prog 202 #[.int .i64 x] w fun e w'=>e=.returned (.bool false)/\w=w':=by
 go_enter Tryz.func202,Tryz.ntmps202;go_wp2;go_ret;exact ⟨by simp,rfl⟩
def zQ (x y:Int):Int:=if x<y then -1 else if y<x then 1 else 0
theorem wP (x y:Int) (w:World):Calls Tryz.prog 133 #[.int .i64 x,.int .i64 y] w fun e w'=>e=.returned (.int .i64 (zQ x y))/\w=w':=by
 unfold zQ;by_cases h1:x<y
 ·rw [if_pos h1];go_enter Tryz.func133,Tryz.ntmps133;go_wp2_with (go_at_call 202;refine (mz _ _).mono ?_;rintro e w' ⟨rfl,rfl⟩);go_ret;exact ⟨rfl,rfl⟩
 ·rw [if_neg h1];by_cases h2:y<x
  ·rw [if_pos h2];go_enter Tryz.func133,Tryz.ntmps133;go_wp2_with (go_at_call 202;refine (mz _ _).mono ?_;rintro e w' ⟨rfl,rfl⟩);go_ret;exact ⟨rfl,rfl⟩
  ·rw [if_neg h2];go_enter Tryz.func133,Tryz.ntmps133;go_wp2_with (go_at_call 202;refine (mz _ _).mono ?_;rintro e w' ⟨rfl,rfl⟩);go_ret;exact ⟨rfl,rfl⟩
theorem kJ (x:Int) (w:World):Calls Tryz.prog 241 #[.int .u64 x] w fun e w'=>e=.returned (.int .i64 (Ds x))/\w=w':=by
 go_enter Tryz.func241,Tryz.ntmps241;go_wp2;go_ret;exact ⟨rfl,rfl⟩
theorem AJ (x:Int) (w:World):Calls Tryz.prog 203 #[.int .u64 x] w fun e w'=>e=.returned (.int .i64 (Ds x))/\w=w':=by
 go_enter Tryz.func203,Tryz.ntmps203;go_wp2_with (go_at_call 241;refine (kJ _ _).mono ?_;rintro e w' ⟨rfl,rfl⟩);go_ret;exact ⟨rfl,rfl⟩
def Mk (n:Nat):Prop:=n<16777216
theorem ud {n:Nat} (h:Mk n):bits .and .i64 (n:Int) 16777215=n:=by
 unfold Mk at h;rw [show (16777215:Int)=((16777215:Nat):Int) from rfl,jz _ _ (by omega) (by decide),show (16777215:Nat)=2^24 - 1 from rfl,Nat.and_two_pow_sub_one_eq_mod];omega
theorem oq {n:Nat} (h:Mk n) (w:World):Calls Tryz.prog 135 #[.int .i64 n] w fun e w'=>e=.returned (.int .i64 n)/\w=w':=by
 have:=wV n w
 rwa [ud h] at this
theorem Dh {n:Nat} (h:Mk n):IntKind.u64.wrap (n:Int)=n:=wrap_u64 n (by unfold Mk at h;omega)
theorem qh {n:Nat} (h:Mk n) (w:World):Calls Tryz.prog 134 #[.int .i64 n] w fun e w'=>e=.returned (.int .i64 (pc n))/\w=w':=by
 have hw:=Dh h;have hp:Ds (n:Int)=(pc n:Nat):=DZ n h;have H:=af h;clear h;go_enter Tryz.func134,Tryz.ntmps134
 go_wp2_with (first
  | (go_at_call 135;refine (oq H.out _).mono ?_;rintro e w' ⟨rfl,rfl⟩)
  | (go_at_call 203;refine (AJ _ _).mono ?_;rintro e w' ⟨rfl,rfl⟩))
 go_ret;exact ⟨rfl,rfl⟩
def zR (a b:Nat):Int:=if pc a<pc b then -1 else if pc b<pc a then 1 else if a<b then -1 else if b<a then 1 else 0
theorem sq {a b:Nat} (ha:Mk a) (hb:Mk b) (w:World):Calls Tryz.prog 79 #[.int .i64 a,.int .i64 b] w fun e w'=>e=.returned (.int .i64 (zR a b))/\w=w':=by
 have HA:=af ha;have HB:=af hb;clear ha hb;obtain ⟨x,hx⟩:∃ x,x=zQ (pc a) (pc b):=⟨_,rfl⟩;have HX:=af hx;clear hx
 have hr:zR a b=if x == 0 then zQ a b else x:=by
  have:=HX.out;unfold zR;unfold zQ at this⊢;split at this
  ·rw [if_pos (by omega)];simp [this]
  ·split at this
   ·rw [if_neg (by omega),if_pos (by omega)];simp [this]
   ·rw [if_neg (by omega),if_neg (by omega)];simp [this]
 rw [hr];clear hr;cases hx0:x == 0
 all_goals
  have hx1:(x != 0)=!(x == 0):=rfl;rw [hx0] at hx1;simp only [Bool.not_true,Bool.not_false] at hx1;go_enter Tryz.func79,Tryz.ntmps79
  go_wp2_with (first
   | (go_at_call 134;refine (qh (by first | exact HA.out | exact HB.out) _).mono ?_;rintro e w' ⟨rfl,rfl⟩)
   | (go_at_call 133;refine (wP _ _ _).mono ?_;rintro e w' ⟨rfl,rfl⟩;rw [<-HX.out])
   | (go_at_call 133;refine (wP _ _ _).mono ?_;rintro e w' ⟨rfl,rfl⟩)
   | (go_at_call 135;refine (oq (by first | exact HA.out | exact HB.out) _).mono ?_;rintro e w' ⟨rfl,rfl⟩))
  go_ret;exact ⟨rfl,rfl⟩
section
open Go.Lib Go.Sort Go.RowKit
theorem d_ {α:Type} (lt:α->α->Prop) (irr:∀ a,¬ lt a a) (tr:∀ a b c,lt a b->lt b c->lt a c) :
  ∀ (l1 l2:List α),l1.Pairwise lt->l2.Pairwise lt->(∀ x,x∈l1 ↔ x∈l2)->l1=l2:=by
 intro l1;induction l1 with
 | nil =>
  intro l2 _ _ h;cases l2 with
  | nil=>rfl
  | cons b l2=>exact absurd ((h b).2 (List.mem_cons_self ..)) (by simp)
 | cons a l1 ih =>
  intro l2 h1 h2 h;cases l2 with
  | nil=>exact absurd ((h a).1 (List.mem_cons_self ..)) (by simp)
  | cons b l2 =>
   rw [List.pairwise_cons] at h1 h2
   have hab:a=b:=by
    rcases List.mem_cons.1 ((h a).1 (List.mem_cons_self ..)) with e | e
    ·exact e
    ·rcases List.mem_cons.1 ((h b).2 (List.mem_cons_self ..)) with e2 | e2
     ·exact e2.symm
     ·exact absurd (tr _ _ _ (h1.1 b e2) (h2.1 a e)) (irr a)
   subst hab;congr 1;refine ih l2 h1.2 h2.2 fun x=>⟨fun hx=>?_,fun hx=>?_⟩
   ·rcases List.mem_cons.1 ((h x).1 (List.mem_cons_of_mem _ hx)) with e | e
    ·subst e;exact absurd (h1.1 x hx) (irr x)
    ·exact e
   ·rcases List.mem_cons.1 ((h x).2 (List.mem_cons_of_mem _ hx)) with e | e
    ·subst e;exact absurd (h2.1 x hx) (irr x)
    ·exact e
theorem ol {α:Type} [Inhabited α] [DecidableEq α] (lt:α->α->Prop) (tr:∀ a b c,lt a b->lt b c->lt a c) (d:Array α)
  (hs:∀ i j,i<j->j<d.size->lt d[i]! d[j]!\/d[i]! = d[j]!):∀ m,m<=d.size->(compactUpTo d m).Pairwise lt/\∀ x,x∈compactUpTo d m ↔ ∃ j,j<m/\d[j]! = x:=by
 intro m;induction m with
 | zero=>intro _;simp [compactUpTo]
 | succ m ih =>
  intro hm;obtain ⟨i1,i2⟩:=ih (by omega);rw [compactUpTo_succ];by_cases h0:m=0
  ·subst h0;simp [keeps,compactUpTo];exact fun x=>eq_comm
  by_cases h:d[m]! = d[m - 1]!
  ·rw [keeps_neg (by omega) h];simp only [Bool.false_eq_true,if_false,List.append_nil];refine ⟨i1,fun x=>?_⟩;rw [i2];constructor
   ·rintro ⟨j,hj,e⟩;exact ⟨j,by omega,e⟩
   ·rintro ⟨j,hj,e⟩;by_cases e2:j=m
    ·subst e2;exact ⟨j - 1,by omega,by rw [<-e,h]⟩
    ·exact ⟨j,by omega,e⟩
  ·rw [keeps_pos h];simp only [if_true];refine ⟨?_,fun x=>?_⟩
   ·rw [List.pairwise_append];refine ⟨i1,by simp,?_⟩;intro x hx y hy;simp at hy;subst hy;obtain ⟨j,hj,e⟩:=(i2 x).1 hx;subst e;have hlast:lt d[m - 1]! d[m]!:=(hs (m - 1) m (by omega) (by omega)).resolve_right (fun e=>h e.symm);by_cases e3:j=m - 1
    ·subst e3;exact hlast
    ·rcases hs j (m - 1) (by omega) (by omega) with e4 | e4
     ·exact tr _ _ _ e4 hlast
     ·rw [e4];exact hlast
   ·rw [List.mem_append,i2];simp only [List.mem_singleton];constructor
    ·rintro (⟨j,hj,e⟩ | e)
     ·exact ⟨j,by omega,e⟩
     ·exact ⟨m,by omega,e.symm⟩
    ·rintro ⟨j,hj,e⟩;by_cases e2:j=m
     ·subst e2;exact .inr e.symm
     ·exact .inl ⟨j,by omega,e⟩
def dP (a b:Nat):Prop:=pc a<pc b\/pc a=pc b/\a<b
instance:DecidableRel dP:=fun a b=>by unfold dP;exact inferInstance
theorem dI (a:Nat):¬ dP a a:=by unfold dP;omega
theorem gH (a b c:Nat) (h1:dP a b) (h2:dP b c):dP a c:=by unfold dP at *;omega
theorem jH (a b:Nat):dP a b\/a=b\/dP b a:=by unfold dP;omega
def jl (x:Nat):List Nat->List Nat
 | []=>[x]
 | y :: l=>if dP x y then x :: y :: l else if x=y then y :: l else y :: jl x l
def aQ:List Nat->List Nat
 | []=>[]
 | x :: l=>jl x (aQ l)
theorem sN (x:Nat) (l:List Nat) (z:Nat):z∈jl x l ↔ z=x\/z∈l:=by
 induction l with
 | nil=>simp [jl]
 | cons y l ih =>
  unfold jl;split
  ·simp
  ·split
   ·rename_i h;subst h;simp
   ·simp [ih];constructor <;> rintro (h | h | h) <;> simp [h]
theorem yw (x:Nat) (l:List Nat) (h:l.Pairwise dP):(jl x l).Pairwise dP:=by
 induction l with
 | nil=>simp [jl]
 | cons y l ih =>
  rw [List.pairwise_cons] at h;unfold jl;split
  ·rename_i hx;refine List.pairwise_cons.2 ⟨fun z hz=>?_,List.pairwise_cons.2 h⟩;rcases List.mem_cons.1 hz with e | e
   ·rw [e];exact hx
   ·exact gH _ _ _ hx (h.1 z e)
  ·split
   ·exact List.pairwise_cons.2 h
   ·rename_i h1 h2;refine List.pairwise_cons.2 ⟨fun z hz=>?_,ih h.2⟩;rcases (sN x l z).1 hz with e | e
    ·rw [e];rcases jH x y with e2 | e2 | e2
     ·exact absurd e2 h1
     ·exact absurd e2 h2
     ·exact e2
    ·exact h.1 z e
theorem ci (l:List Nat) (z:Nat):z∈aQ l ↔ z∈l:=by
 induction l with
 | nil=>simp [aQ]
 | cons x l ih=>simp [aQ,sN,ih]
theorem cW (l:List Nat):(aQ l).Pairwise dP:=by
 induction l with
 | nil=>simp [aQ]
 | cons x l ih=>exact yw x _ ih
theorem gV (l r:List Nat) (h:r.Pairwise dP) (hm:∀ x,x∈r ↔ x∈l):r=aQ l :=
 d_ dP dI gH r (aQ l) h (cW l) fun x=>by rw [hm,ci]
theorem nG (l r:List Nat) (hm:∀ x,x∈r ↔ x∈l):aQ r=aQ l :=
 gV l (aQ r) (cW r) fun x=>by rw [ci,hm]
theorem Ao (x:Nat) (l:List Nat):(jl x l).length<=l.length+1:=by
 induction l with
 | nil=>simp [jl]
 | cons y l ih =>
  unfold jl;split
  ·simp
  ·split
   ·simp
   ·simp;omega
theorem ga (l:List Nat):(aQ l).length<=l.length:=by
 induction l with
 | nil=>simp [aQ]
 | cons x l ih=>have:=Ao x (aQ l);simp [aQ];omega
end
section
open Go.RowKit Go.Lib Go.Sort Go.Shelf
theorem qg (v:Value) (xs:List Int) (w:World) (hv:am w v xs) (hl:xs.length<=17592186044416) :
  Calls Tryz.prog 83 #[v] w fun e w'=>∃ v',e=.returned v'/\OwnInts w' w.heap.size v' xs/\ag w w':=by
 obtain ⟨a,c,rfl,⟨hc,_⟩,hl2,hx⟩:=hv;cases a with
 | none =>
  have h0:xs=[]:=by
   cases xs with
   | nil=>rfl
   | cons x xs=>obtain ⟨b,o,h,_⟩:=hx 0 (by simp);cases h
  subst h0;exact (Go.Proofs.Tryz.slices_Clone_int_nil _ _ _).mono fun e w' ⟨h1,h2⟩=>⟨_,h1,by subst h2;exact OwnInts.nil _ _,by subst h2;exact ag.refl _⟩
 | some a =>
  by_cases h0:xs=[]
  ·subst h0;exact (Go.Proofs.Tryz.slices_Clone_int_zero a c w).mono fun e w' ⟨v',h1,h2,_,h3⟩=>⟨v',h1,⟨by simpa using h2,by simp⟩,h3⟩
  ·obtain ⟨b,o,h1,_⟩:=hx 0 (List.length_pos_iff.2 h0);cases h1;refine (Go.Proofs.Tryz.slices_Clone_int b o xs.length c xs w (Nat.le_refl _) (by omega) ?_).mono fun e w' ⟨v',h1,h2,_,h3⟩=>⟨v',h1,⟨by simpa using h2,hl2⟩,h3⟩
   intro j hj;obtain ⟨b',o',h2,h3⟩:=hx j hj;cases h2;rw [h3];simp [hj]
abbrev aL (ns:List Nat):List Int:=ns.map fun n:Nat=>(n:Int)
abbrev Eq:=Fin 16777216
def ri (n:Eq):Value:=.int .i64 (n.val:Int)
def Ck (a b:Eq):Int:=zR a.val b.val
theorem Dn (a b:Eq):ltOf Ck a b=decide (dP a.val b.val):=by
 unfold ltOf Ck zR dP;by_cases h1:pc a.val<pc b.val
 ·simp [h1]
 ·by_cases h2:pc b.val<pc a.val
  ·have:¬ pc a.val=pc b.val:=by omega
   simp [h1,h2,this]
  ·have:pc a.val=pc b.val:=by omega
   by_cases h3:a.val<b.val
   ·simp [this,h3]
   ·by_cases h4:b.val<a.val <;> simp [this,h3,h4]
theorem Fh:SWO (ltOf Ck) where
 irrefl x:=by rw [Dn];simp [dI]
 trans x y z h1 h2:=by rw [Dn] at *;simp at *;exact gH _ _ _ h1 h2
 ntrans x y z h1 h2:=by rw [Dn] at *;simp at *;unfold dP at *;omega
theorem Fj (x y:Eq) (h1:ltOf Ck x y=false) (h2:ltOf Ck y x=false):x=y:=by
 rw [Dn] at *;simp at *;rcases jH x.val y.val with h | h | h
 ·exact absurd h h1
 ·exact Fin.ext h
 ·exact absurd h h2
theorem Cl (blk off size:Nat) (w:World):CmpLays1 Tryz.prog 79 #[] ri Ck blk off size w:=by
 refine CmpReads.lays fun m os dk _ x y=>?_
 exact (sq (show Mk x.val from x.isLt) (show Mk y.val from y.isLt) _).mono fun e w' ⟨h1,h2⟩=>⟨h1,0,by subst h2;rfl⟩
theorem fD {w:World} {g:Nat} {o:Obj} (h:w.heap[g]?=some o):g<w.heap.size:=by
 rcases Nat.lt_or_ge g w.heap.size with h1 | h1
 ·exact h1
 ·simp [Array.getElem?_eq_none h1] at h
theorem jj {α:Type} [Inhabited α] (enc:α->Value) (w:World) (q g off:Nat) (d:Array α) {cur:Array Value} {e:TypeId} {fr:Nat × Nat} (h:w.heap[g]?=some (.cells cur e fr)) :
  (putRow enc (Sort.ahead w q) g off d).heap[g]?=some (.cells (putCells enc off d cur) e fr):=by
 show (w.heap.modify g (onCells (putCells enc off d)))[g]?=_;simp [Array.getElem?_modify,h,onCells]
theorem eW {α:Type} [Inhabited α] (enc:α->Value) (w:World) (q g off k:Nat) (d:Array α) (hk:k≠g):(putRow enc (Sort.ahead w q) g off d).heap[k]?=w.heap[k]?:=by
 show (w.heap.modify g (onCells (putCells enc off d)))[k]?=_;simp [Array.getElem?_modify,Ne.symm hk]
theorem fN {α:Type} [Inhabited α] (enc:α->Value) (d:Array α) (cur:Array Value) (n:Nat) (hd:d.size=n) (hc:n<=cur.size) :
  (putCells enc 0 d cur).size=cur.size/\(putCells enc 0 d cur).toList.take n=d.toList.map enc:=by
 refine ⟨by simp [putCells],?_⟩;apply List.ext_getElem?;intro i;simp only [putCells,Array.toList_mapIdx,List.getElem?_take,List.getElem?_mapIdx,List.getElem?_map];by_cases h:i<n
 ·have h1:i<cur.toList.length:=by simpa using (by omega:i<cur.size)
  have h2:i<d.size:=by omega
  rw [if_pos h,List.getElem?_eq_getElem h1];simp [h2,getElem!_pos,Nat.zero_add]
 ·rw [if_neg h,List.getElem?_eq_none (by simp;omega)];rfl
theorem tD (B:Nat) (v:Value) (ns:List Nat) (w:World) (hm:∀ n∈ns,Mk n) (hv:OwnInts w B v (aL ns)) (hB:B<=w.heap.size) :
  Calls Tryz.prog 78 #[v,.func (.func 79) #[] #[]] w fun e w'=>e=.returned (.tuple #[])/\∃ rs:List Nat,(∀ n∈rs,Mk n)/\rs.length=ns.length/\rs.Pairwise (fun a b=>dP a b\/a=b)/\(∀ x,x∈rs ↔ x∈ns)/\OwnInts w' B v (aL rs)/\Below B w w':=by
 obtain ⟨hv1,hv2⟩:=hv;by_cases h0:ns=[]
 ·subst h0;have hv3:=hv1;obtain ⟨_,h2⟩:=hv1
  have:∃ p c,v=.slice p 0 c:=by
   rcases h2 with ⟨h2,_⟩ | ⟨g,cap,cur,h2,_⟩
   ·exact ⟨_,_,h2⟩
   ·exact ⟨_,cap,by simpa using h2⟩
  obtain ⟨p,c,rfl⟩:=this;exact (Go.Proofs.Tryz.slices_SortFunc_none (α:=Nat) p c _ w).mono fun e w' ⟨h3,h4⟩=>⟨h3,[],by simp,by simp,by simp,by simp,by subst h4;exact ⟨hv3,by simp⟩,by subst h4;exact Below.refl _ _⟩
 ·obtain ⟨h1,h2⟩:=hv1;rcases h2 with ⟨_,h2⟩ | ⟨g,cap,cur,rfl,hg,hh,hn,hcap,hsz,htk⟩
  ·simp at h2;exact absurd h2 h0
  ·obtain ⟨ds,hds⟩:∃ ds:List Eq,ds.map (fun n=>n.val)=ns:=⟨ns.pmap (fun n (h:Mk n)=>(⟨n,h⟩:Eq)) hm,by rw [List.map_pmap];simp⟩;have hlen:ds.length=ns.length:=by rw [<-hds];simp
   have hH:Holds ri w g 0 ds.toArray:=by
    intro j hj;have hj':j<ns.length:=by rw [<-hlen];simpa using hj
    refine ⟨?_,by simp [World.frozen?,hh]⟩;have e1:(cur.toList.take ((aL ns).length*1))[j]?=((aL ns).map (Value.int .i64))[j]?:=by rw [htk]
    rw [List.getElem?_take_of_lt (by simpa using hj')] at e1;simp only [World.cell?,hh,Nat.zero_add];rw [show cur[j]?=cur.toList[j]? from by simp];simp only [Option.isSome_none,Bool.false_eq_true,if_false];rw [e1];have hjd:j<ds.length:=by simpa using hj
    have e2:ns[j]?=some (ds[j].val):=by rw [<-hds];simp [hjd]
    have e3:ns[j]=ds[j].val:=by rw [List.getElem?_eq_getElem hj'] at e2;exact Option.some.inj e2
    simp [hj',ri,e3,getElem!_pos,hjd]
   have hS:=Go.Proofs.Tryz.slices_SortFunc_total ri (fun _=>rfl) Ck Fh 79 #[] g 0 cap ds.toArray w (enters_of Tryz.func79 (by kernel_rfl) rfl) (Cl g 0 _ w) hH (fD hh) (by simp at hv2⊢;omega) Fj;have el:(aL ns).length=ds.toArray.size:=by simp [hlen]
   rw [el];refine hS.mono fun e w' ⟨h3,n,os,h4⟩=>⟨h3,?_⟩
   clear hS h3;obtain ⟨ms,hms⟩:∃ ms,ms=ds.toArray.toList.mergeSort fun x y=>!(ltOf Ck) y x:=⟨_,rfl⟩
   rw [<-hms] at h4;have hperm:ms.Perm ds:=by rw [hms];simpa using List.mergeSort_perm ds _
   have hsorted:ms.Pairwise fun a b=>(!(ltOf Ck) b a)=true:=by
    rw [hms];refine List.pairwise_mergeSort (fun a b c h1 h2=>?_) (fun a b=>?_) _
    ·rw [Dn] at *;simp at *;unfold dP at *;omega
    ·rw [Dn,Dn];simp;unfold dP;omega
   have hml:ms.length=ds.length:=hperm.length_eq;refine ⟨ms.map (fun n=>n.val),?_,by simp [hml,hlen],?_,?_,?_,?_⟩
   ·intro n hn;obtain ⟨m,_,rfl⟩:=List.mem_map.1 hn;exact m.isLt
   ·rw [List.pairwise_map];refine hsorted.imp fun h=>?_
    rw [Dn] at h;simp at h;rcases jH _ _ with h5 | h5 | h5
    ·exact .inl h5
    ·exact .inr h5
    ·exact absurd h5 h
   ·intro x;rw [<-hds];simp [hperm.mem_iff]
   ·subst h4;have hg1:=jj ri w n g 0 ms.toArray hh;have hps:=fN ri ms.toArray cur ms.length (by simp) (by rw [hsz];simp at hn;omega);refine ⟨⟨by simp,.inr ⟨g,cap,putCells ri 0 ms.toArray cur,by simp [hml],hg,?_,by simp at hn⊢;omega,hcap,by rw [hps.1];exact hsz,?_⟩⟩,by simp at hv2⊢;omega⟩
    ·rw [sortWorld,heap_grow_old _ _ (fD hg1)];exact hg1
    ·have:=hps.2;simp only [List.length_map,Nat.mul_one];rw [this];simp [ri]
   ·subst h4;refine ⟨rfl,rfl,rfl,?_,fun k hk=>?_⟩
    ·show w.heap.size<=((w.heap.modify g _)++os).size;simp
    ·have hkg:k≠g:=by omega
     rw [sortWorld,heap_grow_old _ _ (by show k<(w.heap.modify g _).size;simp;omega)];exact eW ri w n g 0 k _ hkg
end
section
open Go.RowKit Go.Lib Go.Sort Go.Shelf
theorem sp (rs:List Nat) (hr:rs.Pairwise (fun a b=>dP a b\/a=b)):Lib.compact (aL rs)=aL (aQ rs):=by
 have h:=ol (α:=Int) (fun a b=>dP a.toNat b.toNat) (fun a b c h1 h2=>gH _ _ _ h1 h2) (aL rs).toArray (by
  intro i j hij hj;have hj':j<rs.length:=by simpa using hj
  have hi':i<rs.length:=by omega
  have:=List.pairwise_iff_getElem.1 hr i j hi' hj' hij;simp only [aL,List.getElem!_toArray,List.getElem!_eq_getElem?_getD,List.getElem?_map,List.getElem?_eq_getElem hj',List.getElem?_eq_getElem hi',Option.map_some,Option.getD_some,Int.toNat_natCast];rcases this with h | h
  ·exact .inl h
  ·exact .inr (by rw [h])) (aL rs).length (by simp)
 show compactUpTo (aL rs).toArray (aL rs).length=_;refine d_ (fun a b:Int=>dP a.toNat b.toNat) (fun a=>dI _) (fun a b c h1 h2=>gH _ _ _ h1 h2) _ _ h.1 ?_ ?_
 ·rw [List.pairwise_map];simpa using cW rs
 ·intro x;rw [h.2];simp only [List.mem_map,ci];constructor
  ·rintro ⟨j,hj,e⟩;have hj':j<rs.length:=by simpa using hj
   refine ⟨rs[j],List.getElem_mem _,?_⟩;rw [<-e];simp [hj']
  ·rintro ⟨n,hn,rfl⟩;obtain ⟨j,hj,e⟩:=List.getElem_of_mem hn;exact ⟨j,by simpa using hj,by simp [hj,e]⟩
theorem sk (B:Nat) (v:Value) (ns:List Nat) (w:World) (hr:ns.Pairwise (fun a b=>dP a b\/a=b)) (hv:OwnInts w B v (aL ns)) (hB:B<=w.heap.size) :
  Calls Tryz.prog 218 #[v] w fun e w'=>∃ v',e=.returned v'/\OwnInts w' B v' (aL (aQ ns))/\Below B w w':=by
 obtain ⟨hv1,hv2⟩:=hv;by_cases h0:ns=[]
 ·subst h0;have hv3:=hv1;obtain ⟨_,h2⟩:=hv1
  have:∃ p c,v=.slice p 0 c:=by
   rcases h2 with ⟨h2,_⟩ | ⟨g,cap,cur,h2,_⟩
   ·exact ⟨_,_,h2⟩
   ·exact ⟨_,cap,by simpa using h2⟩
  obtain ⟨p,c,rfl⟩:=this;exact (Go.Proofs.Tryz.slices_Compact_int_empty p c w).mono fun e w' ⟨h3,h4⟩=>⟨_,h3,by subst h4;exact ⟨hv3,by simp [aQ]⟩,by subst h4;exact Below.refl _ _⟩
 ·obtain ⟨h1,h2⟩:=hv1;rcases h2 with ⟨_,h2⟩ | ⟨g,cap,cur,rfl,hg,hh,hn,hcap,hsz,htk⟩
  ·simp at h2;exact absurd h2 h0
  ·have hH:Holds (Value.int .i64) w g 0 (aL ns).toArray:=by
    intro j hj;have hj':j<ns.length:=by simpa using hj
    refine ⟨?_,by simp [World.frozen?,hh]⟩;have e1:(cur.toList.take ((aL ns).length*1))[j]?=((aL ns).map (Value.int .i64))[j]?:=by rw [htk]
    rw [List.getElem?_take_of_lt (by simpa using hj')] at e1;simp only [World.cell?,hh,Nat.zero_add];rw [show cur[j]?=cur.toList[j]? from by simp];simp only [Option.isSome_none,Bool.false_eq_true,if_false];rw [e1];simp [hj']
   have hS:=Go.Proofs.Tryz.slices_Compact_int g 0 cap (aL ns) w hH (by omega) hn;refine hS.mono fun e w' ⟨h3,q,h4⟩=>⟨_,h3,?_,?_⟩
   ·clear hS h3;subst h4;have hlen:=compact_length_le (aL ns);obtain ⟨zs,hzs⟩:∃ zs,zs=(Lib.compact (aL ns)++List.replicate ((aL ns).length - (Lib.compact (aL ns)).length) 0).toArray:=⟨_,rfl⟩;rw [<-hzs];have hzl:zs.size=(aL ns).length:=by rw [hzs];simp at hlen⊢;omega
    have hg1:=jj (Value.int .i64) w q g 0 zs hh;have hps:=fN (Value.int .i64) zs cur (aL ns).length hzl (by rw [hsz];omega);rw [sp ns hr] at hzs hlen⊢;refine ⟨⟨by simp,.inr ⟨g,cap,putCells (Value.int .i64) 0 zs cur,rfl,hg,hg1,by omega,hcap,by rw [hps.1];exact hsz,?_⟩⟩,by omega⟩;have e2:=congrArg (List.take (aL (aQ ns)).length) hps.2;rw [List.take_take,Nat.min_eq_left hlen] at e2;rw [Nat.mul_one,e2,hzs];simp
   ·subst h4;refine ⟨rfl,rfl,rfl,?_,fun k hk=>eW _ w q g 0 k _ (by omega)⟩;show w.heap.size<=(w.heap.modify g _).size;simp
theorem pM (v:Value) (ns:List Nat) (w:World) (hm:∀ n∈ns,Mk n) (hv:am w v (aL ns)) (hl:ns.length<=17592186044416) :
  Calls Tryz.prog 154 #[v] w fun e w'=>∃ v',e=.returned v'/\OwnInts w' w.heap.size v' (aL (aQ ns))/\ag w w':=by
 have H1:=af (qg v _ w hv (by simpa using hl));have HM:=af hm;clear hv hm hl;go_enter Tryz.func154,Tryz.ntmps154
 go_wp2_with (first
  | (go_at_call 83;refine H1.out.mono ?_;rintro e w1 ⟨v1,rfl,ho1,hk1⟩;have hs1:=hk1.size;have O1:=af ho1;clear ho1)
  | (go_at_call 78;refine (tD w.heap.size v1 ns w1 HM.out O1.out hs1).mono ?_;rintro e w2 ⟨rfl,rs,hr1,hr2,hr3,hr4,ho2,hb2⟩;have O2:=af ho2;have R3:=af hr3;have R4:=af hr4;clear ho2 hr1 hr2 hr3 hr4)
  | (go_at_call 218;refine (sk w.heap.size v1 rs w2 R3.out O2.out (Nat.le_trans hs1 hb2.size)).mono ?_;rintro e w3 ⟨v3,rfl,ho3,hb3⟩))
 go_ret;refine ⟨_,rfl,?_,(hk1.app hb2).app hb3⟩;have e:aQ rs=aQ ns:=nG ns rs R4.out;rw [e] at ho3;exact ho3
def aZ (a b:Nat):Bool:=bk a b == 0
theorem qN {a b:Nat} (ha:Mk a) (hb:Mk b):vJ (a:Int) (b:Int)=aZ a b:=by
 unfold vJ aZ;rw [ud ha,nX a b (by unfold Mk at ha;omega) (by unfold Mk at hb;omega)];rw [Bool.eq_iff_iff];simp
def aG (out:List Nat) (s:Nat):List Nat:=if out.any (fun t=>aZ t s) then out else out++[s]
def gI (l:List Nat):List Nat:=l.foldl aG []
theorem lD (l:List Nat):∀ out x,x∈l.foldl aG out->x∈out\/x∈l:=by
 induction l with
 | nil=>intro out x h;exact .inl h
 | cons s l ih =>
  intro out x h;rcases ih _ x h with h | h
  ·unfold aG at h;split at h
   ·exact .inl h
   ·rcases List.mem_append.1 h with h | h
    ·exact .inl h
    ·simp at h;subst h;exact .inr (List.mem_cons_self ..)
  ·exact .inr (List.mem_cons_of_mem _ h)
theorem yj (l:List Nat) (hl:∀ n∈l,Mk n):oL (aL l)=aL (gI l):=by
 have key:∀ (l:List Nat) (out:List Nat),(∀ n∈l,Mk n)->(∀ n∈out,Mk n)->(aL l).foldl dH (aL out)=aL (l.foldl aG out):=by
  intro l;induction l with
  | nil=>intro out _ _;rfl
  | cons s l ih =>
   intro out h1 h2;have hs:Mk s:=h1 s (List.mem_cons_self ..)
   have e:dH (aL out) (s:Int)=aL (aG out s):=by
    unfold dH aG
    have e1:(aL out).any (fun t=>vJ t s)=out.any (fun t=>aZ t s):=by
     rw [List.any_map];rw [Bool.eq_iff_iff,List.any_eq_true,List.any_eq_true];constructor
     ·rintro ⟨x,hx,h⟩;exact ⟨x,hx,by rw [<-qN (h2 x hx) hs];exact h⟩
     ·rintro ⟨x,hx,h⟩;exact ⟨x,hx,by simp only [Function.comp];rw [qN (h2 x hx) hs];exact h⟩
    rw [e1];split
    ·rfl
    ·simp
   have h3:=ih (aG out s) (fun n hn=>h1 n (List.mem_cons_of_mem _ hn)) (fun n hn=>by
    unfold aG at hn;split at hn
    ·exact h2 n hn
    ·rcases List.mem_append.1 hn with h | h
     ·exact h2 n h
     ·simp at h;subst h;exact hs)
   show (aL l).foldl dH (dH (aL out) (s:Int))=_;rw [e,h3];rfl
 exact key l [] hl (by simp)
def aP (l:List Nat):List Nat:=gI (aQ l)
theorem gd {l:List Nat} {x:Nat} (h:x∈aP l):x∈l:=by
 rcases lD _ _ _ h with h | h
 ·simp at h
 ·exact (ci _ _).1 h
theorem uL (l r:List Nat) (hm:∀ x,x∈r ↔ x∈l):aP r=aP l:=by unfold aP;rw [nG l r hm]
theorem oG (l:List Nat):∀ out,(l.foldl aG out).length<=out.length+l.length:=by
 induction l with
 | nil=>intro out;simp
 | cons s l ih =>
  intro out;refine Nat.le_trans (ih _) ?_;unfold aG;split <;> simp <;> omega
theorem sI (l:List Nat):(aP l).length<=l.length:=by
 have h1:=oG (aQ l) [];have h2:=ga l;simp at h1;unfold aP gI;omega
theorem rx (v:Value) (ns:List Nat) (w:World) (hm:∀ n∈ns,Mk n) (hv:am w v (aL ns)) (hl:ns.length<=8796093022208) :
  Calls Tryz.prog 155 #[v] w fun e w'=>∃ v',e=.returned v'/\OwnInts w' w.heap.size v' (aL (aP ns))/\ag w w':=by
 have hlen:=ga ns;refine (sQ v w (aL (aQ ns)) (by simp;omega) ?_).mono fun e w' ⟨v',h1,h2,h3⟩=>⟨v',h1,?_,h3⟩
 ·exact (pM v ns w hm hv (by omega)).mono fun e w' ⟨v',h1,h2,h3⟩=>⟨v',h1,h2.ints,h3⟩
 ·rw [yj _ fun n hn=>hm n ((ci _ _).1 hn)] at h2;exact h2
end
theorem pD {w:World} {va vb:Value} {xs ys:List Int} (ha:am w va xs) (hb:am w vb ys):ix am (w.alloc (.cells #[va,vb] 22)) (.slice (some ⟨w.heap.size,0,none⟩) 2 2) [xs,ys] :=
 ⟨_,_,rfl,⟨by simp,fun h=>by cases h⟩,by simp,fun i h=>by
  match i,h with
  | 0,_=>exact ⟨_,_,va,rfl,by simp,ha.kept ((ag.refl _).alloc _)⟩
  | 1,_=>exact ⟨_,_,vb,rfl,by simp,hb.kept ((ag.refl _).alloc _)⟩⟩
theorem zp {s:Int} (h:0<=s/\s<=16777215) (w:World):Calls Tryz.prog 217 #[.int .i64 s] w fun e w'=>e=.returned (.bool true)/\w=w':=by
 have:=mV s w
 rwa [decide_eq_true h] at this
def mA (xss:List (List Int)):Nat:=if xss.all (fun xs=>decide (xs.length<=1024)) then 0 else 4
theorem yd (v:Value) (xss:List (List Int)) (w:World) (hv:ix am w v xss) (hx:∀ xs∈xss,∀ x∈xs,0<=x/\x<=16777215) :
  Calls Tryz.prog 152 #[v] w fun e w'=>e=.returned (aY (mA xss))/\ag w w':=by
 obtain ⟨a,c,rfl,⟨hc,_⟩,hl,hrow⟩:=hv;obtain ⟨n,hn⟩:∃ n,n=xss.length:=⟨_,rfl⟩;rw [<-hn];have hn9:n<=140737488355328:=by omega
 have HX:=af hx;have HR:=af hrow;have HN:=af hn;clear hx hrow hn hc hl;go_enter Tryz.func152,Tryz.ntmps152;go_wp2;go_loopw [4,6,9,19] (fun _ _ i _ wr=>∃ k:Nat,k<=n/\i=.int .i64 k/\Hid (∀ xs∈xss.take k,xs.length<=1024)/\ag w wr) (fun _ _ i _ _=>n - (intOf i).toNat)
 case atStart=>exact ⟨0,Nat.zero_le _,rfl,af (by simp),ag.refl _⟩
 case round =>
  obtain ⟨k,hk,rfl,HF,hK⟩:=hrel;by_cases hlt:k<n
  ·have hkx:k<xss.length:=by have:=HN.out;omega
   obtain ⟨b,o,u,rfl,hc0,hI⟩:=HR.out k hkx;have hcell:=hK.cell hc0;have hI2:=hI.kept hK;obtain ⟨xs,hxs⟩:∃ x,x=xss[k]:=⟨_,rfl⟩;rw [<-hxs] at hI hI2;have hval:=HX.out xs (by rw [hxs];exact List.getElem_mem _);obtain ⟨ax,cx,rfl,_,hlx,hcx⟩:=hI;obtain ⟨m,hm⟩:∃ m,m=xs.length:=⟨_,rfl⟩;rw [<-hm] at hcell;have hm9:m<=140737488355328:=by omega
   have HV:=af hval;have HCX:=af hcx;have HM:=af hm;have HXS:=af hxs;clear hc0 hval hcx hm hxs hI2 hlx;by_cases hlen:m<=1024
   ·go_wp2;obtain ⟨wo,hwo⟩:∃ wo:World,wo=wr:=⟨_,rfl⟩;rw [<-hwo] at hK;go_loopw [6,19] (fun _ j wi=>∃ q:Nat,q<=m/\j=.int .i64 q/\ag w wi) (fun _ j _=>m - (intOf j).toNat)
    case atStart=>exact ⟨0,Nat.zero_le _,rfl,by rw [<-hwo];exact hK⟩
    case round =>
     obtain ⟨q,hq,rfl,hK2⟩:=hrel;by_cases hqm:q<m
     ·have hqx:q<xs.length:=by have:=HM.out;omega
      obtain ⟨b2,o2,rfl,hc2⟩:=HCX.out q hqx;have hcell2:=hK2.cell hc2;obtain ⟨s,hs⟩:∃ s,s=xs[q]:=⟨_,rfl⟩;rw [<-hs] at hcell2;have hsv:0<=s/\s<=16777215:=HV.out s (by rw [hs];exact List.getElem_mem _);have HSV:=af hsv;clear hc2 hs hsv;go_wp2_with (go_at_call 217;refine (zp HSV.out _).mono ?_;rintro e w' ⟨rfl,rfl⟩);go_roundw
      case rel=>exact ⟨q+1,by omega,by go_num,hK2⟩
      case measure=>simp [intOf];omega
     ·go_wp2;go_roundw
      case rel =>
       refine ⟨k+1,by omega,by go_num,af ?_,hK2⟩;intro ys hy;rw [List.take_succ_eq_append_getElem hkx] at hy;rcases List.mem_append.1 hy with hy | hy
       ·exact HF.out ys hy
       ·simp at hy;rw [hy,<-HXS.out,<-HM.out];exact hlen
      case measure=>simp [intOf];omega
   ·go_wp2;go_ret;refine ⟨?_,hK⟩
    have:mA xss=4:=by
     unfold mA;rw [if_neg];intro h;have:=List.all_eq_true.1 h xs (by rw [HXS.out];exact List.getElem_mem _);simp at this;have:=HM.out;omega
    rw [this];rfl
  ·go_wp2;go_ret;refine ⟨?_,hK⟩;have hh:=HF.out;rw [List.take_of_length_le (by have:=HN.out;omega)] at hh
   have:mA xss=0:=by
    unfold mA;rw [if_pos];rw [List.all_eq_true];intro ys hy;exact decide_eq_true (hh ys hy)
   rw [this];rfl
theorem xR (w:World):Calls Tryz.prog 263 #[.slice none 0 0,.int .i64 0] w fun e w'=>e=.returned (.slice none 0 0)/\w=w':=by
 go_enter Tryz.func263,Tryz.ntmps263;go_wp2;go_ret;exact ⟨rfl,rfl⟩
theorem xQ (n:Nat) (h0:0<n) (hn:n<=17592186044416) (w:World):Calls Tryz.prog 263 #[.slice none 0 0,.int .i64 n] w fun e w'=>∃ v,e=.returned v/\OwnInts w' w.heap.size v []/\ag w w':=by
 obtain ⟨i0,hi0,hz0,hz1,hz2⟩:=info_parts eX;have h1:¬ ((n:Int)<0):=by omega
 have h3:wrap64 ((n:Int) - ((0:Int) - (0:Int)))=n:=by unfold wrap64;omega
 have h4:(n:Int) > 0:=by omega
 have hold:(Builtin.firstCells i0.size 0 (.slice none 0 0)).run Tryz.prog w.drew=.ok (([]:List Value).toArray) w.drew:=run_firstCells_none w.drew i0.size 0 0 0
 have hrz:∀ ty,(Builtin.append_ #[22,3] ty #[.slice none 0 0,.int .i64 (n:Int)]).run Tryz.prog w =
   .ok (.slice (some ⟨w.heap.size,0,none⟩) n (grownCap w n 0 3)) (w.drew.alloc (.cells (([]:List Value).toArray++Builtin.zeroCells (Value.int .i64 0).cells n++Builtin.zeroCells (Value.int .i64 0).cells (grownCap w n 0 3 - n)) 3)):=fun ty=>by
  have h:=Lib.run_append_grow_zeros (P:=Tryz.prog) w 22 3 ty 3 i0 _ .i64 .i64 Tryz.underlying22 Tryz.underlying3 hi0 hz0 none 0 0 [] hold n h0 (by omega) (by omega) (by omega)
   (by rw [hz2];omega) (growslice_fits (by omega) (by rw [hz2];omega))
  simpa using h
 have hGn:n<=grownCap w n 0 3:=grownCap_ge w _ _ _;obtain ⟨G,hG⟩:∃ G,G=grownCap w n 0 3:=⟨_,rfl⟩;rw [<-hG] at hrz hGn
 have hG63:G<=9223372036854775807:=by
  have:=grownCap_le_maxLen w n 0 3 (by unfold maxLen;omega);rw [<-hG] at this;unfold maxLen at this;omega
 clear hold hG;obtain ⟨cur,hcur⟩:∃ cur,cur=(([]:List Value).toArray++Builtin.zeroCells (Value.int .i64 0).cells n++Builtin.zeroCells (Value.int .i64 0).cells (G - n)):=⟨_,rfl⟩;rw [<-hcur] at hrz;have hsz:cur.size=G:=by rw [hcur];simp [Builtin.zeroCells,Value.cells];omega
 have HC:=af hsz;clear hcur hsz;go_enter Tryz.func263,Tryz.ntmps263;go_wp2_with (at_builtin;refine Lib.wpList_append_run _ rfl _ _ _ _ rfl _ _ rfl rfl _ _ (hrz _) ?_)
 all_goals
  go_ret;refine ⟨_,rfl,⟨?_,by simp⟩,((ag.refl _).drew).alloc _⟩;exact World.ownsRow_made w.drew cur G (base:=w.heap.size) (e:=3) (size:=1) (Nat.le_refl _) hG63 (by rw [HC.out];omega)
theorem om (v:Value) (xss:List (List Int)) (w:World) (hv:ix am w v xss) (hlen:xss.flatten.length<=17592186044416) :
  Calls Tryz.prog 250 #[v] w fun e w'=>∃ v',e=.returned v'/\OwnInts w' w.heap.size v' xss.flatten/\ag w w':=by
 obtain ⟨a,c,rfl,⟨hc,_⟩,hl,hrow⟩:=hv;obtain ⟨n,hn⟩:∃ n,n=xss.length:=⟨_,rfl⟩;rw [<-hn];have hn9:n<=140737488355328:=by omega
 have hsum:∀ k,(xss.take k).flatten.length<=xss.flatten.length:=fun k=>by
  have h1:=List.take_append_drop k xss;have h2:xss.flatten.length=(xss.take k).flatten.length+(xss.drop k).flatten.length:=by rw [<-List.length_append,<-List.flatten_append,h1]
  omega
 have hstep:∀ k (h:k<xss.length),(xss.take (k+1)).flatten=(xss.take k).flatten++xss[k]:=fun k h=>by
  rw [List.take_succ_eq_append_getElem h,List.flatten_append];simp
 have HR:=af hrow;have HN:=af hn;have HS:=af hsum;have HT:=af hstep;have HL:=af hlen;clear hrow hn hc hl hsum hstep hlen;go_enter Tryz.func250,Tryz.ntmps250;go_wp2;go_loopw [3,5,11] (fun s _ i wr=>∃ k:Nat,k<=n/\i=.int .i64 k/\s=.int .i64 ((xss.take k).flatten.length:Nat)/\ag w wr) (fun _ _ i _=>n - (intOf i).toNat)
 case atStart=>exact ⟨0,Nat.zero_le _,rfl,rfl,ag.refl _⟩
 case round =>
  obtain ⟨k,hk,rfl,rfl,hK⟩:=hrel;have hb:=HS.out k;have hb2:=HL.out;obtain ⟨t,ht⟩:∃ t,t=(xss.take k).flatten.length:=⟨_,rfl⟩;have ht9:t<=17592186044416:=by omega
  rw [<-ht];by_cases hlt:k<n
  ·have hkx:k<xss.length:=by have:=HN.out;omega
   obtain ⟨b,o,u,rfl,hc0,hI⟩:=HR.out k hkx;have hcell:=hK.cell hc0;have hst:=HT.out k hkx;have hb3:=HS.out (k+1);obtain ⟨xs,hxs⟩:∃ x,x=xss[k]:=⟨_,rfl⟩;rw [<-hxs] at hI hst;obtain ⟨ax,cx,rfl,_,hlx,_⟩:=hI;obtain ⟨m,hm⟩:∃ m,m=xs.length:=⟨_,rfl⟩;rw [<-hm] at hcell;have hnew:t+m=(xss.take (k+1)).flatten.length:=by rw [hst,List.length_append];omega
   have htm:t+m<=17592186044416:=by omega
   have HNew:=af hnew;clear hc0 hlx hm hxs hst hb3 hb hb2 ht hnew;go_wp2;go_roundw
   case rel=>exact ⟨k+1,by omega,by go_num,by rw [<-HNew.out];go_num,hK⟩
   case measure=>simp [intOf];omega
  ·have e:k=n:=by omega
   have htx:t=xss.flatten.length:=by rw [ht,e,List.take_of_length_le (by have:=HN.out;omega)]
   have HTX:=af htx;clear htx ht hb hb2
   have hgrow:Calls Tryz.prog 263 #[.slice none 0 0,.int .i64 t] wr fun e w'=>∃ v,e=.returned v/\OwnInts w' wr.heap.size v []/\ag wr w':=by
    by_cases h0:t=0
    ·subst h0;exact (xR wr).mono fun e w' ⟨h1,h2⟩=>⟨_,h1,OwnInts.nil _ _,by subst h2;exact ag.refl _⟩
    ·exact xQ t (by omega) ht9 wr
   have HG:=af hgrow;clear hgrow;go_wp2_with (go_at_call 263;refine HG.out.mono ?_;rintro e w1 ⟨v1,rfl,ho1,hk1⟩;have O1:=af ho1;clear ho1);have hz:=hK.size;have K1:ag w w1:=hK.trans hk1;go_loopw [6,8,27] (fun v _ i wr=>∃ k:Nat,k<=n/\i=.int .i64 k/\OwnInts wr w.heap.size v (xss.take k).flatten/\ag w wr) (fun _ _ i _=>n - (intOf i).toNat)
   case atStart=>exact ⟨0,Nat.zero_le _,rfl,O1.out.mono hz,K1⟩
   case round =>
    obtain ⟨q,hq,rfl,hown,hK2⟩:=hrel;have hz2:=hK2.size;by_cases hlt2:q<n
    ·have hkx:q<xss.length:=by have:=HN.out;omega
     obtain ⟨b,o,u,rfl,hc0,hI⟩:=HR.out q hkx;have hcell:=hK2.cell hc0;have hI2:=hI.kept hK2;have hst:=HT.out q hkx;have hb3:=HS.out (q+1);have hb4:=HL.out;obtain ⟨xs,hxs⟩:∃ x,x=xss[q]:=⟨_,rfl⟩;rw [<-hxs] at hst hI2;obtain ⟨acc,hacc⟩:∃ x,x=(xss.take q).flatten:=⟨_,rfl⟩;rw [<-hacc] at hst hown;have hsz:acc.length+xs.length<=17592186044416:=by rw [hst,List.length_append] at hb3;omega
     have HO:=af hown;have HST:=af hst;have HI:=af hI2;clear hc0 hI hown hst hI2 hxs hacc hb3 hb4;go_wp2_with (at_builtin;refine fS rfl _ _ rfl w.heap.size _ acc rfl HO.out _ xs rfl HI.out hsz hz2 ?_;intro v' w3 hown3 _ hb3);go_roundw
     case rel=>exact ⟨q+1,by omega,by go_num,by rw [HST.out];exact hown3,hK2.app hb3⟩
     case measure=>simp [intOf];omega
    ·go_wp2;go_ret;have e:q=n:=by omega
     subst e;rw [List.take_of_length_le (by have:=HN.out;omega)] at hown;exact ⟨_,rfl,hown,hK2⟩
theorem tC (v:Value) (xs:List Int) (w:World) (hv:am w v xs) (h:xs.length<=1024):Calls Tryz.prog 249 #[v] w fun e w'=>e=.returned (.tuple #[v,.nilIface])/\w=w':=by
 obtain ⟨a,c,rfl,⟨hc,_⟩,hl,hrow⟩:=hv;obtain ⟨n,hn⟩:∃ n,n=xs.length:=⟨_,rfl⟩;rw [<-hn] at h⊢;clear hrow hn hl hc;go_enter Tryz.func249,Tryz.ntmps249;go_wp2;go_ret2;exact ⟨rfl,rfl⟩
theorem nF (v:Value) (xs:List Int) (w:World) (hv:am w v xs) (h:¬ xs.length<=1024):Calls Tryz.prog 249 #[v] w fun e w'=>e=.returned (.tuple #[.slice none 0 0,aY 4])/\w=w':=by
 obtain ⟨a,c,rfl,⟨hc,_⟩,hl,hrow⟩:=hv;obtain ⟨n,hn⟩:∃ n,n=xs.length:=⟨_,rfl⟩;rw [<-hn] at h⊢;clear hrow hn hl hc;go_enter Tryz.func249,Tryz.ntmps249;go_wp2;go_ret2;exact ⟨rfl,rfl⟩
theorem qz {ns:List Nat} (h:∀ n∈ns,Mk n):∀ x∈aL ns,0<=x/\x<=16777215:=by
 intro x hx;obtain ⟨n,hn,rfl⟩:=List.mem_map.1 hx;have:=h n hn;unfold Mk at this;omega
def aH (w:World) (v:Value) (ns:List Nat):Prop:=am w v (aL ns)/\∀ n∈ns,Mk n
theorem aH.kept {w w':World} {v:Value} {ns:List Nat} (h:aH w v ns) (hk:ag w w'):aH w' v ns:=⟨h.1.kept hk,h.2⟩
def aF (w:World) (B:Nat) (v:Value) (ns:List Nat):Prop:=OwnInts w B v (aL ns)/\∀ n∈ns,Mk n
theorem aF.sets {w:World} {B:Nat} {v:Value} {ns:List Nat} (h:aF w B v ns):aH w v ns:=⟨h.1.ints,h.2⟩
theorem aF.kept {w w':World} {B:Nat} {v:Value} {ns:List Nat} (h:aF w B v ns) (hk:ag w w'):aF w' B v ns:=⟨h.1.kept hk,h.2⟩
theorem aF.mono {w:World} {B B':Nat} {v:Value} {ns:List Nat} (h:aF w B v ns) (hb:B'<=B):aF w B' v ns:=⟨h.1.mono hb,h.2⟩
theorem aF.nil (w:World) (B:Nat):aF w B (.slice none 0 0) []:=⟨OwnInts.nil _ _,by simp⟩
theorem rv {ns:List Nat} (h:∀ n∈ns,Mk n):∀ n∈aP ns,Mk n:=fun n hn=>h n (gd hn)
theorem db (v:Value) (ns:List Nat) (w:World) (hv:aH w v ns) (hl:ns.length<=8796093022208) :
  Calls Tryz.prog 155 #[v] w fun e w'=>∃ v',e=.returned v'/\aF w' w.heap.size v' (aP ns)/\ag w w' :=
 (rx v ns w hv.2 hv.1 hl).mono fun _ _ ⟨v',h1,h2,h3⟩=>⟨v',h1,⟨h2,rv hv.2⟩,h3⟩
theorem Ar (a b:List Nat) (va vb:Value) (w:World) (ha:aH w va a) (hb:aH w vb b) :
  Calls Tryz.prog 152 #[.slice (some ⟨w.heap.size,0,none⟩) 2 2] (w.alloc (.cells #[va,vb] 22)) fun e w'=>e=.returned (aY (if a.length<=1024/\b.length<=1024 then 0 else 4))/\ag w w':=by
 refine (yd _ [aL a,aL b] _ (pD ha.1 hb.1) ?_).mono fun e w' ⟨h1,h2⟩=>⟨?_,((ag.refl _).alloc _).trans h2⟩
 ·intro xs hxs;simp at hxs;rcases hxs with rfl | rfl
  ·exact qz ha.2
  ·exact qz hb.2
 ·rw [h1];congr 2;unfold mA;simp
def dj (w':World) (B:Nat) (e:Ending) (r:Option (List Nat)):Prop :=
 match r with
 | some l=>∃ v,e=.returned (.tuple #[v,.nilIface])/\aF w' B v l
 | none=>e=.returned (.tuple #[.slice none 0 0,aY 4])
def bK (a b:List Nat):Option (List Nat):=if a.length<=1024/\b.length<=1024 then (if (aP (a++b)).length<=1024 then some (aP (a++b)) else none) else none
theorem td (a b:List Nat) (va vb:Value) (w:World) (ha:aH w va a) (hb:aH w vb b) :
  Calls Tryz.prog 205 #[va,vb] w fun e w'=>dj w' w.heap.size e (bK a b)/\ag w w':=by
 obtain ⟨aa,na,ca,rfl⟩:=ha.1.shape;obtain ⟨ab,nb,cb,rfl⟩:=hb.1.shape;have H1:=af (fun w' (hk:ag w w')=>Ar a b _ _ w' (ha.kept hk) (hb.kept hk));have HA:=af ha;have HB:=af hb;clear ha hb;unfold bK;by_cases h:a.length<=1024/\b.length<=1024
 ·have hflat:([aL a,aL b]:List (List Int)).flatten=aL (a++b):=by simp
  have hfl:([aL a,aL b]:List (List Int)).flatten.length<=17592186044416:=by rw [hflat];simp;omega
  have habl:(a++b).length<=8796093022208:=by simp;omega
  have HF:=af hflat;have HFL:=af hfl;have HAB:=af habl;have E0:=af (show aY (if a.length<=1024/\b.length<=1024 then 0 else 4)=.nilIface by rw [if_pos h];rfl);rw [if_pos h];clear hflat hfl habl h;by_cases hm:(aP (a++b)).length<=1024
  ·have HM:=af (show (aL (aP (a++b))).length<=1024 by simpa using hm);rw [if_pos hm];clear hm;go_enter Tryz.func205,Tryz.ntmps205
   go_wp2_with (first
    | (go_at_call 152;refine (H1.out _ (ag.refl _)).mono ?_;rintro e w1 ⟨rfl,hk1⟩;rw [E0.out])
    | (go_at_call 250;refine (om _ [aL a,aL b] _ (pD (HA.out.kept hk1).1 (HB.out.kept hk1).1) HFL.out).mono ?_;rintro e w2 ⟨v2,rfl,ho2,hk2⟩;rw [HF.out] at ho2;have O2:=af ho2;clear ho2)
    | (go_at_call 155;refine (db v2 (a++b) w2 ⟨O2.out.ints,fun n hn=>(List.mem_append.1 hn).elim (HA.out.2 n) (HB.out.2 n)⟩ HAB.out).mono ?_;rintro e w3 ⟨v3,rfl,ho3,hk3⟩;have O3:=af ho3;clear ho3)
    | (go_at_call 249;refine (tC v3 _ w3 O3.out.1.ints HM.out).mono ?_;rintro e w4 ⟨rfl,rfl⟩))
   go_ret2;have hk:=((hk1.trans ((ag.refl _).alloc _)).trans hk2);exact ⟨⟨_,rfl,O3.out.mono hk.size⟩,hk.trans hk3⟩
  ·have HM:=af (show ¬ (aL (aP (a++b))).length<=1024 by simpa using hm);rw [if_neg hm];clear hm;go_enter Tryz.func205,Tryz.ntmps205
   go_wp2_with (first
    | (go_at_call 152;refine (H1.out _ (ag.refl _)).mono ?_;rintro e w1 ⟨rfl,hk1⟩;rw [E0.out])
    | (go_at_call 250;refine (om _ [aL a,aL b] _ (pD (HA.out.kept hk1).1 (HB.out.kept hk1).1) HFL.out).mono ?_;rintro e w2 ⟨v2,rfl,ho2,hk2⟩;rw [HF.out] at ho2;have O2:=af ho2;clear ho2)
    | (go_at_call 155;refine (db v2 (a++b) w2 ⟨O2.out.ints,fun n hn=>(List.mem_append.1 hn).elim (HA.out.2 n) (HB.out.2 n)⟩ HAB.out).mono ?_;rintro e w3 ⟨v3,rfl,ho3,hk3⟩;have O3:=af ho3;clear ho3)
    | (go_at_call 249;refine (nF v3 _ w3 O3.out.1.ints HM.out).mono ?_;rintro e w4 ⟨rfl,rfl⟩))
   go_ret2;have hk:=((hk1.trans ((ag.refl _).alloc _)).trans hk2);exact ⟨rfl,hk.trans hk3⟩
 ·have E0:=af (show aY (if a.length<=1024/\b.length<=1024 then 0 else 4)=.iface 60 (.int .i64 4) by rw [if_neg h];rfl);rw [if_neg h];clear h;go_enter Tryz.func205,Tryz.ntmps205;go_wp2_with (go_at_call 152;refine (H1.out _ (ag.refl _)).mono ?_;rintro e w1 ⟨rfl,hk1⟩;rw [E0.out]);go_ret2;exact ⟨rfl,hk1⟩
section
open Go.RowKit Go.Maps
def cr (w:World) (b n:Nat) (mem:Int->Bool):Prop :=
 ∃ D:DataW Unit,w.ownsMap Tryz.prog 3 (plainElem Tryz.prog 4) b n D/\IsMap D/\∀ x:Int,D.atKey (.int .i64 x) (.lit (.bool false))=.lit (.bool (mem x))
theorem cr.made (w:World):cr (w.alloc (.map #[] 0)) w.heap.size 0 (fun _=>false) :=
 ⟨_,World.ownsMap_made _ _ _ _,⟨_,rfl⟩,fun _=>rfl⟩
theorem cr.kept {w w':World} {b n:Nat} {mem:Int->Bool} (h:cr w b n mem) (hb:w'.heap[b]?=w.heap[b]?):cr w' b n mem:=by
 obtain ⟨D,⟨es,cl,h1,h2⟩,h3⟩:=h;exact ⟨D,⟨es,cl,hb.trans h1,h2⟩,h3⟩
theorem cr.lt {w:World} {b n:Nat} {mem:Int->Bool} (h:cr w b n mem):b<w.heap.size:=by
 obtain ⟨D,h1,_⟩:=h;exact h1.lt
theorem Ca {n:Nat} (h:Mk n):(Lit.int .i64 (n:Int)).wf=true:=by
 unfold Mk at h;simp [Lit.wf,IntKind.min,IntKind.max,IntKind.signed,IntKind.bits];omega
theorem zN {P:Program} {e:TypeId} (he:P.underlying e=some .bool) {v:Value} {x:Bool} {ps:List MemPlace} (h:plainElem (H:=Unit) P e v=some (.lit (.bool x),ps)):v=.bool x:=by
 cases v <;> simp [plainElem,he] at h;rw [h.1]
variable {ops:Array Oper} {rest:List Oper} {o:Oper} {a:Act} {Q:Exit->Act->World->Prop} {w:World}
theorem qw (t:TypeId) (ht:Tryz.prog.underlying t=some (.map 3 4)) (hg:o.guard=none) (m x:Operand) (hop:o.op=Op.lookup t m x false) (b n:Nat) (mem:Int->Bool)
  (hm:a.eval m=.map (some b)) (hown:cr w b n mem) (k:Int) (hx:a.eval x=.int .i64 k) (hk:(Lit.int .i64 k).wf=true)
  (hK:wpList Tryz.prog ops Q rest (a.put o.dst (.bool (mem k))) w):wpList Tryz.prog ops Q (o :: rest) a w:=by
 obtain ⟨D,h1,h2,h3⟩:=hown;refine wpList_plain hg fun K' hK'=>?_
 have hz:(zeroValue 4).run Tryz.prog w=.ok (.bool false) w:=by kernel_rfl
 obtain ⟨v,ps,hrun,hv⟩:=h1.lookup (int_keyed Tryz.underlying3) ht hz (plainElem_bool (H:=Unit) Tryz.underlying4 false) (keyOf_int_mk Tryz.underlying3 hk);rw [h3 k] at hv
 have hvb:v=.bool (mem k):=by
  exact zN Tryz.underlying4 hv
 subst hvb;unfold Oper.wp;simp [execOp,hop,hm,hx,hrun,Result.andThen];exact hK' _ _ hK
theorem vI (t:TypeId) (ht:Tryz.prog.underlying t=some (.map 3 4)) (hg:o.guard=none) (m x v:Operand) (hop:o.op=Op.mapUpdate t m x v) (b n:Nat) (mem:Int->Bool)
  (hm:a.eval m=.map (some b)) (hown:cr w b n mem) (hn:n<maxLen) (k:Int) (hx:a.eval x=.int .i64 k) (hk:(Lit.int .i64 k).wf=true) (c:Bool) (hv:a.eval v=.bool c)
  (hK:∀ w',cr w' b (n+1) (fun y=>if y=k then c else mem y)->w.grownBy w' (some b)->wpList Tryz.prog ops Q rest (a.put o.dst undef) w'):wpList Tryz.prog ops Q (o :: rest) a w:=by
 obtain ⟨D,h1,h2,h3⟩:=hown;refine wpList_mapUpdate_own w hg m x v t hop 3 4 (int_keyed Tryz.underlying3) ht _ b n D hm h1 hn _ _ _ hx hv (keyOf_int_mk Tryz.underlying3 hk) (.lit (.bool c)) [] (plainElem_bool Tryz.underlying4 c) ?_;intro w' h4 h5;refine hK w' ⟨_,h4,?_,fun y=>?_⟩ h5
 ·obtain ⟨es,rfl⟩:=h2;exact ⟨_,rfl⟩
 ·by_cases e:y=k
  ·subst e;rw [atKey_put_same (k:=.int .i64 y) h2 (by simp [WideAt.IsKeyLit])];simp
  ·rw [atKey_put_other (by intro h;simp at h;exact e h),h3 y];simp [e]
def nL (out:List Nat) (u:Nat):List Nat:=if u∈out then out else out++[u]
def eG (x:Nat) (ys:List Nat) (out:List Nat):List Nat:=ys.foldl (fun out y=>nL out (x ||| y)) out
def kr (xs ys:List Nat):List Nat:=xs.foldl (fun out x=>eG x ys out) []
theorem At (out:List Nat) (u z:Nat):z∈nL out u ↔ z∈out\/z=u:=by
 unfold nL;split
 ·constructor
  ·exact .inl
  ·rintro (h | rfl)
   ·exact h
   ·assumption
 ·simp
theorem Au (x:Nat) (ys:List Nat):∀ out z,z∈eG x ys out ↔ z∈out\/∃ y∈ys,z=x ||| y:=by
 induction ys with
 | nil=>intro out z;simp [eG]
 | cons y ys ih =>
  intro out z;show z∈eG x ys (nL out (x ||| y)) ↔ _;rw [ih,At];simp only [List.mem_cons,exists_eq_or_imp,or_assoc]
theorem ru (ys:List Nat) (xs:List Nat):∀ out z,z∈xs.foldl (fun out x=>eG x ys out) out ↔ z∈out\/∃ x∈xs,∃ y∈ys,z=x ||| y:=by
 induction xs with
 | nil=>intro out z;simp
 | cons x xs ih =>
  intro out z;rw [List.foldl_cons,ih,Au];simp only [List.mem_cons,exists_eq_or_imp,or_assoc]
theorem oK (xs ys:List Nat) (z:Nat):z∈kr xs ys ↔ ∃ x∈xs,∃ y∈ys,z=x ||| y:=by
 unfold kr;rw [ru];simp
theorem sJ (x:Nat) (ys:List Nat):∀ out,(eG x ys out).length<=out.length+ys.length:=by
 induction ys with
 | nil=>intro out;simp [eG]
 | cons y ys ih =>
  intro out;show (eG x ys (nL out (x ||| y))).length<=_;refine Nat.le_trans (ih _) ?_;unfold nL;split <;> simp <;> omega
theorem lB (ys:List Nat) (xs:List Nat):∀ out,(xs.foldl (fun out x=>eG x ys out) out).length<=out.length+xs.length*ys.length:=by
 induction xs with
 | nil=>intro out;simp
 | cons x xs ih =>
  intro out;have h1:=ih (eG x ys out);have h2:=sJ x ys out;rw [List.foldl_cons,List.length_cons,Nat.succ_mul];omega
theorem Dr {a b:Nat} (ha:Mk a) (hb:Mk b):Mk (a ||| b):=by
 unfold Mk at *;exact Nat.or_lt_two_pow (n:=24) ha hb
theorem DT {a b:Nat} (ha:Mk a) (hb:Mk b):bits .or .i64 (a:Int) (b:Int)=((a ||| b:Nat):Int):=AK a b (by unfold Mk at ha;omega) (by unfold Mk at hb;omega)
end
section
open Go.RowKit Go.Maps
theorem cr.ne {w:World} {b n:Nat} {mem:Int->Bool} (h:cr w b n mem) {B:Nat} {e:TypeId} {size m:Nat} {v:Value} {xs:List Value} (ho:w.ownsRow B e size v m xs):some b≠v.ownBlock:=by
 obtain ⟨D,⟨es,cl,h1,_⟩,_⟩:=h;obtain ⟨_,⟨rfl,_⟩ | ⟨g,cap,cur,rfl,_,hh,_⟩⟩:=ho
 ·intro h;cases h
 ·intro h;cases h;rw [hh] at h1;cases h1
theorem DW {w w':World} {B:Nat} {v:Value} {xs:List Int} {b:Nat} (h:OwnInts w B v xs) (hg:w.grownBy w' (some b)) (hne:some b≠v.ownBlock):OwnInts w' B v xs:=by
 obtain ⟨⟨h1,h2⟩,h3⟩:=h;refine ⟨⟨h1,h2.imp id ?_⟩,h3⟩;rintro ⟨g,cap,cur,rfl,h5,h6,h7⟩;exact ⟨g,cap,cur,rfl,h5,(hg.block g (fD h6) (fun e=>hne e.symm)).trans h6,h7⟩
theorem Cy {w0 w w':World} {b:Nat} (h:ag w0 w) (hg:w.grownBy w' (some b)) (hb:w0.heap.size<=b):ag w0 w' :=
 h.app ⟨hg.os,hg.tape,hg.output,hg.size,fun k hk=>hg.block k (Nat.lt_of_lt_of_le hk h.size) (by intro e;cases e;omega)⟩
theorem wY (u:Nat) (l:List Nat):(u:Int)∈aL l ↔ u∈l:=by
 simp only [aL,List.mem_map];constructor
 ·rintro ⟨x,hx,e⟩;have:x=u:=by omega
  rw [<-this];exact hx
 ·intro h;exact ⟨u,h,rfl⟩
def jw (wm wr:World) (v:Value) (acc:List Nat):Prop :=
 OwnInts wr wm.heap.size v (aL acc)/\cr wr wm.heap.size acc.length (fun z=>decide (z∈aL acc))/\ag wm wr
theorem Ba {wm wr:World} {v:Value} {acc:List Nat} (h:jw wm wr v acc) {u:Nat} (hu:u∈acc):jw wm wr v (nL acc u):=by
 unfold nL;rw [if_pos hu];exact h
theorem Bb {wm wr w1 w2 w3:World} {v v':Value} {acc:List Nat} {u:Nat} (h:jw wm wr v acc) (hu:u ∉ acc)
  (h1:cr w1 wm.heap.size (acc.length+1) (fun y=>if y=(u:Int) then true else decide (y∈aL acc))) (hg1:wr.grownBy w1 (some wm.heap.size))
  (h2:w2=w1.alloc (.cells #[.int .i64 u] 3)) (h3:OwnInts w3 wm.heap.size v' (aL acc++[(u:Int)])) (hg3:w2.grownBy w3 v.ownBlock) (hb3:Below wm.heap.size w2 w3):jw wm w3 v' (nL acc u):=by
 unfold nL;rw [if_neg hu];subst h2;have hlt:=h1.lt;refine ⟨by simpa using h3,?_,?_⟩
 ·have hb1:(w1.alloc (.cells #[.int .i64 u] 3)).heap[wm.heap.size]?=w1.heap[wm.heap.size]?:=Below.heap_alloc _ _ _ hlt;have hb2:=hg3.block wm.heap.size (by simp;omega) (h.2.1.ne h.1.1);have h4:=h1.kept (hb2.trans hb1)
  have e:(fun y:Int=>if y=(u:Int) then true else decide (y∈aL acc))=fun z=>decide (z∈aL (acc++[u])):=by
   funext y;by_cases hy:y=(u:Int)
   ·subst hy;simp
   ·rw [if_neg hy];congr 1;simp only [List.map_append,List.mem_append,List.map_cons,List.map_nil,List.mem_singleton,hy,or_false]
  rw [e] at h4;simpa using h4
 ·exact ((Cy h.2.2 hg1 (Nat.le_refl _)).alloc _).app hb3
def aM (a b:List Nat):Option (List Nat):=if a.length<=1024/\b.length<=1024 then (if (aP (kr (aP a) (aP b))).length<=1024 then some (aP (kr (aP a) (aP b))) else none) else none
theorem Cc {xs ys:List Nat} (hx:∀ n∈xs,Mk n) (hy:∀ n∈ys,Mk n):∀ n∈kr xs ys,Mk n:=by
 intro n hn;obtain ⟨x,h1,y,h2,rfl⟩:=(oK xs ys n).1 hn;exact Dr (hx x h1) (hy y h2)
theorem nu (a b:List Nat) (va vb:Value) (w:World) (ha:aH w va a) (hb:aH w vb b) :
  Calls Tryz.prog 204 #[va,vb] w fun e w'=>dj w' w.heap.size e (aM a b)/\ag w w':=by
 obtain ⟨aa,na,ca,rfl⟩:=ha.1.shape;obtain ⟨ab,nb,cb,rfl⟩:=hb.1.shape;have H1:=af (fun w' (hk:ag w w')=>Ar a b _ _ w' (ha.kept hk) (hb.kept hk));have HA:=af ha;have HB:=af hb;clear ha hb;unfold aM;by_cases h:a.length<=1024/\b.length<=1024
 ·have E0:=af (show aY (if a.length<=1024/\b.length<=1024 then 0 else 4)=.nilIface by rw [if_pos h];rfl);rw [if_pos h];have hla:=sI a;have hlb:=sI b;have hal:a.length<=8796093022208:=by omega
  have hbl:b.length<=8796093022208:=by omega
  have HAL:=af hal;have HBL:=af hbl;obtain ⟨n,hn⟩:∃ n,n=(aP a).length:=⟨_,rfl⟩;obtain ⟨m,hm⟩:∃ m,m=(aP b).length:=⟨_,rfl⟩;have hn9:n<=1024:=by omega
  have hm9:m<=1024:=by omega
  have HN:=af hn;have HM:=af hm;have HMA:=af (rv HA.out.2);have HMB:=af (rv HB.out.2);obtain ⟨A,hA⟩:∃ A,A=aP a:=⟨_,rfl⟩;obtain ⟨Bs,hB⟩:∃ A,A=aP b:=⟨_,rfl⟩;rw [<-hA] at HN HMA⊢;rw [<-hB] at HM HMB⊢;have HAe:=af hA;have HBe:=af hB;clear h hla hlb hal hbl hn hm hA hB;go_enter Tryz.func204,Tryz.ntmps204;have hmm:=@run_makeMap Tryz.prog
  go_wp2_with (first
   | (go_at_call 152;refine (H1.out _ (ag.refl _)).mono ?_;rintro e w1 ⟨rfl,hk1⟩;rw [E0.out];have tok1:True:=trivial)
   | (go_at_call 155;clear tok1;refine (db _ a _ (HA.out.kept hk1) HAL.out).mono ?_;rintro e w2 ⟨v2,rfl,ho2,hk2⟩;have O2:=af ho2;clear ho2)
   | (go_at_call 155;refine (db _ b _ (HB.out.kept (hk1.trans hk2)) HBL.out).mono ?_;rintro e w3 ⟨v3,rfl,ho3,hk3⟩;have O3:=af ho3;clear ho3;rw [<-HAe.out] at O2;rw [<-HBe.out] at O3;obtain ⟨a2,c2,rfl,_,_,hc2⟩:=O2.out.1.ints;obtain ⟨a3,c3,rfl,_,_,hc3⟩:=O3.out.1.ints;have C2:=af hc2;have C3:=af hc3;clear hc2 hc3 O2 O3;rw [show (aL A).length=n by rw [HN.out];simp,show (aL Bs).length=m by rw [HM.out];simp]))
  have hK03:=(hk1.trans hk2).trans hk3;go_loopw [8,10,12,13,28,34] (fun v _ _ _ i _ wr=>∃ k:Nat,k<=n/\i=.int .i64 k/\jw w3 wr v ((A.take k).foldl (fun out x=>eG x Bs out) [])) (fun _ _ _ _ i _ _=>n - (intOf i).toNat)
  case atStart=>exact ⟨0,Nat.zero_le _,rfl,OwnInts.nil _ _,by simpa using cr.made w3,(ag.refl _).alloc _⟩
  case round =>
   obtain ⟨k,hk,rfl,hinv⟩:=hrel;by_cases hlt:k<n
   ·have hkx:k<A.length:=by have:=HN.out;omega
    obtain ⟨b2,o2,rfl,hc0⟩:=C2.out k (by simpa using hkx);have hcell:=(hk3.trans hinv.2.2).cell hc0;obtain ⟨x,hx⟩:∃ x,x=A[k]:=⟨_,rfl⟩;have hxm:Mk x:=HMA.out x (by rw [hx];exact List.getElem_mem _);simp only [List.getElem_map] at hcell;rw [<-hx] at hcell
    have hstep:(A.take (k+1)).foldl (fun out x=>eG x Bs out) []=eG x Bs ((A.take k).foldl (fun out x=>eG x Bs out) []):=by
     rw [List.take_succ_eq_append_getElem hkx,List.foldl_append,<-hx];rfl
    have hlen:=lB Bs (A.take k) [];obtain ⟨acc,hacc⟩:∃ acc,acc=(A.take k).foldl (fun out x=>eG x Bs out) []:=⟨_,rfl⟩;rw [<-hacc] at hinv hstep hlen
    have hal:acc.length<=1048576:=by
     have h1:(A.take k).length<=1024:=by simp;omega
     have h2:Bs.length<=1024:=by have:=HM.out;omega
     have h3:=Nat.mul_le_mul h1 h2;simp at hlen h3;omega
    have HST:=af hstep;have HXM:=af hxm;have HI:=af hinv;have HAL9:=af hal;clear hstep hxm hinv hx hacc hlen hal hc0;go_wp2;obtain ⟨wo,hwo⟩:∃ wo:World,wo=wr:=⟨_,rfl⟩;rw [<-hwo] at HI hcell;clear hcell;go_loopw [8,12,13,34] (fun v _ _ j wi=>∃ q:Nat,q<=m/\j=.int .i64 q/\jw w3 wi v (eG x (Bs.take q) acc)) (fun _ _ _ j _=>m - (intOf j).toNat)
    case atStart=>exact ⟨0,Nat.zero_le _,rfl,by rw [<-hwo];exact HI.out⟩
    case round =>
     obtain ⟨q,hq,rfl,hinv⟩:=hrel;by_cases hqm:q<m
     ·have hqx:q<Bs.length:=by have:=HM.out;omega
      obtain ⟨b3,o3,rfl,hc0⟩:=C3.out q (by simpa using hqx);have hcell:=hinv.2.2.cell hc0;obtain ⟨y,hy⟩:∃ y,y=Bs[q]:=⟨_,rfl⟩;have hym:Mk y:=HMB.out y (by rw [hy];exact List.getElem_mem _);simp only [List.getElem_map] at hcell;rw [<-hy] at hcell
      have hstep:eG x (Bs.take (q+1)) acc=nL (eG x (Bs.take q) acc) (x ||| y):=by
       unfold eG;rw [List.take_succ_eq_append_getElem hqx,List.foldl_append,<-hy];rfl
      have hlen:=sJ x (Bs.take q) acc;have hbit:=DT HXM.out hym;have hmk:=Dr HXM.out hym;obtain ⟨u,hu⟩:∃ u,u=x ||| y:=⟨_,rfl⟩
      rw [<-hu] at hstep hbit hmk;obtain ⟨ac2,hac2⟩:∃ ac,ac=eG x (Bs.take q) acc:=⟨_,rfl⟩;rw [<-hac2] at hinv hstep hlen;have hal:ac2.length<=2097152:=by have:=HAL9.out;simp at hlen;omega
      have hsz:=hinv.2.2.size;have HST2:=af hstep;have HUM:=af hmk;have HI2:=af hinv;clear hstep hym hinv hy hac2 hlen hc0 hu hmk;by_cases hin:u∈ac2
      ·have hdec:decide ((u:Int)∈aL ac2)=true:=decide_eq_true ((wY u ac2).2 hin);have HD:=af hdec;have HIN:=af hin;clear hdec hin;go_wp2_with (at_lookup;refine qw 239 Tryz.underlying239 rfl _ _ rfl w3.heap.size _ _ rfl HI2.out.2.1 (u:Int) rfl (Ca HUM.out) ?_;rw [HD.out]);go_roundw
       case rel=>exact ⟨q+1,by omega,by go_num,by rw [HST2.out];exact Ba HI2.out HIN.out⟩
       case measure=>simp [intOf];omega
      ·have hdec:decide ((u:Int)∈aL ac2)=false:=decide_eq_false fun h=>hin ((wY u ac2).1 h)
       have HD:=af hdec;have HIN:=af hin;clear hdec hin
       go_wp2_with (first
        | (at_lookup;refine qw 239 Tryz.underlying239 rfl _ _ rfl w3.heap.size _ _ rfl HI2.out.2.1 (u:Int) rfl (Ca HUM.out) ?_;rw [HD.out])
        | (at_mapUpdate;refine vI 239 Tryz.underlying239 rfl _ _ _ rfl w3.heap.size _ _ rfl HI2.out.2.1 (by unfold maxLen;omega) (u:Int) rfl (Ca HUM.out) true rfl ?_;intro w5 hm5 hg5;have ho5:=DW HI2.out.1 hg5 (HI2.out.2.1.ne HI2.out.1.1);have hs5:=hg5.size;have HM5:=af hm5;have HO5:=af ho5;clear hm5 ho5)
        | (at_builtin;refine eA rfl _ _ rfl w3.heap.size _ (aL ac2) rfl (HO5.out.kept ((ag.refl _).alloc _)) _ (u:Int) rfl (by simp) (by simp;omega) (by simp;omega) ?_;intro v' w6 hown6 hg6 hb6))
       go_roundw
       case rel=>exact ⟨q+1,by omega,by go_num,by rw [HST2.out];exact Bb HI2.out HIN.out HM5.out hg5 rfl hown6 hg6 hb6⟩
       case measure=>simp [intOf];omega
     ·have e:q=m:=by omega
      have hfin:eG x (Bs.take q) acc=(A.take (k+1)).foldl (fun out x=>eG x Bs out) []:=by
       rw [HST.out,e,List.take_of_length_le (by have:=HM.out;omega)]
      rw [hfin] at hinv;have HI3:=af hinv;clear hinv hfin e;go_wp2;go_roundw
      case rel=>exact ⟨k+1,by omega,by go_num,HI3.out⟩
      case measure=>simp [intOf];omega
   ·have e:k=n:=by omega
    have hfin:(A.take k).foldl (fun out x=>eG x Bs out) []=kr A Bs:=by
     rw [e,List.take_of_length_le (by have:=HN.out;omega)];rfl
    rw [hfin] at hinv;have hlen:=lB Bs A []
    have hal:(kr A Bs).length<=8796093022208:=by
     have h1:A.length<=1024:=by have:=HN.out;omega
     have h2:Bs.length<=1024:=by have:=HM.out;omega
     have h3:=Nat.mul_le_mul h1 h2;unfold kr;simp at hlen h3;omega
    have hset:aH wr u8 (kr A Bs):=⟨hinv.1.ints,Cc HMA.out HMB.out⟩;have hmin:=db _ _ _ hset hal;have HS:=af hmin;have hK:=hK03.trans hinv.2.2;clear hmin hset hlen hal hfin hinv e;by_cases hm:(aP (kr A Bs)).length<=1024
    ·have HMn:=af (show (aL (aP (kr A Bs))).length<=1024 by simpa using hm);have HMo:=af hm;clear hm
     go_wp2_with (first
      | (go_at_call 155;refine HS.out.mono ?_;rintro e w4 ⟨v4,rfl,ho4,hk4⟩;have O4:=af ho4;clear ho4)
      | (go_at_call 249;refine (tC v4 _ w4 O4.out.1.ints HMn.out).mono ?_;rintro e w5 ⟨rfl,rfl⟩))
     go_ret2;try rw [if_pos HMo.out]
     exact ⟨⟨_,rfl,O4.out.mono hK.size⟩,hK.trans hk4⟩
    ·have HMn:=af (show ¬ (aL (aP (kr A Bs))).length<=1024 by simpa using hm);have HMo:=af hm;clear hm
     go_wp2_with (first
      | (go_at_call 155;refine HS.out.mono ?_;rintro e w4 ⟨v4,rfl,ho4,hk4⟩;have O4:=af ho4;clear ho4)
      | (go_at_call 249;refine (nF v4 _ w4 O4.out.1.ints HMn.out).mono ?_;rintro e w5 ⟨rfl,rfl⟩))
     go_ret2;try rw [if_neg HMo.out]
     exact ⟨rfl,hK.trans hk4⟩
 ·have E0:=af (show aY (if a.length<=1024/\b.length<=1024 then 0 else 4)=.iface 60 (.int .i64 4) by rw [if_neg h];rfl);rw [if_neg h];clear h;go_enter Tryz.func204,Tryz.ntmps204;go_wp2_with (go_at_call 152;refine (H1.out _ (ag.refl _)).mono ?_;rintro e w1 ⟨rfl,hk1⟩;rw [E0.out]);go_ret2;exact ⟨rfl,hk1⟩
end
section
open Go.RowKit
def aj (w:World) (g:Nat) (e:TypeId) (xs:List Value):Prop :=
 ∃ cur,w.heap[g]?=some (.cells cur e (0,0))/\xs.length<=cur.size/\cur.toList.take xs.length=xs
theorem aj.made (w:World) (cs:Array Value) (e:TypeId):aj (w.alloc (.cells cs e)) w.heap.size e cs.toList :=
 ⟨cs,heap_alloc_new w _,by simp,List.take_of_length_le (by simp)⟩
theorem aj.lt {w:World} {g:Nat} {e:TypeId} {xs:List Value} (h:aj w g e xs):g<w.heap.size:=by
 obtain ⟨cur,h1,_⟩:=h;rcases Nat.lt_or_ge g w.heap.size with h2 | h2
 ·exact h2
 ·simp [Array.getElem?_eq_none h2] at h1
theorem aj.kept {w w':World} {g:Nat} {e:TypeId} {xs:List Value} (h:aj w g e xs) (hk:ag w w'):aj w' g e xs:=by
 have hl:=h.lt;obtain ⟨cur,h1,h2⟩:=h;exact ⟨cur,(hk.block g hl).trans h1,h2⟩
theorem aj.same {w w':World} {g:Nat} {e:TypeId} {xs:List Value} (h:aj w g e xs) (hk:w'.heap[g]?=w.heap[g]?):aj w' g e xs:=by
 obtain ⟨cur,h1,h2⟩:=h;exact ⟨cur,hk.trans h1,h2⟩
theorem aj.cell {w:World} {g:Nat} {e:TypeId} {xs:List Value} (h:aj w g e xs) {i:Nat} (hi:i<xs.length):w.cell? ⟨g,i,none⟩=some xs[i]:=by
 obtain ⟨cur,h1,h2,h3⟩:=h;have e1:(cur.toList.take xs.length)[i]?=xs[i]?:=by rw [h3]
 rw [List.getElem?_take_of_lt hi] at e1;simp only [World.cell?,h1];simpa [hi] using e1
theorem aj.free {w:World} {g:Nat} {e:TypeId} {xs:List Value} (h:aj w g e xs) (i:Nat):w.frozen? ⟨g,i,none⟩=false:=by
 obtain ⟨cur,h1,_⟩:=h;simp [World.frozen?,h1]
theorem aj.store {w:World} {g:Nat} {e:TypeId} {xs:List Value} (h:aj w g e xs) (i:Nat) (u:Value):aj (w.setCell ⟨g,i,none⟩ u) g e (xs.set i u):=by
 obtain ⟨cur,h1,h2,h3⟩:=h;refine ⟨cur.setIfInBounds i u,by simp [World.setCell,Array.getElem?_modify,h1],by simpa using h2,?_⟩;rw [List.length_set,Array.toList_setIfInBounds,List.take_set,h3]
theorem ag.store {w0 w:World} (h:ag w0 w) {g:Nat} (hg:w0.heap.size<=g) (i:Nat) (u:Value):ag w0 (w.setCell ⟨g,i,none⟩ u):=Below.setCell h hg u
theorem aj.other {w:World} {g:Nat} {e:TypeId} {xs:List Value} (h:aj w g e xs) {p:Nat} (hp:g≠p) (i:Nat) (u:Value):aj (w.setCell ⟨p,i,none⟩ u) g e xs :=
 h.same (Below.heap_setCell w ⟨p,i,none⟩ u g hp)
theorem ky {w:World} {a:Addr} {v:Value} (h:w.cell? a=some v) {p:Nat} (hp:a.block≠p) (i:Nat) (u:Value):(w.setCell ⟨p,i,none⟩ u).cell? a=some v :=
 (World.cell?_of_block (w:=w) (Below.heap_setCell w ⟨p,i,none⟩ u a.block hp)).trans h
theorem aj.ints {w:World} {g:Nat} {xs:List Int} {c:Nat} (h:aj w g 3 (xs.map (.int .i64))) (hc:xs.length<=c) (hl:xs.length<=140737488355328):am w (.slice (some ⟨g,0,none⟩) xs.length c) xs :=
 ⟨_,c,rfl,⟨hc,fun h=>by cases h⟩,hl,fun i hi=>⟨g,0,rfl,by have:=h.cell (i:=i) (by simpa using hi);simpa using this⟩⟩
theorem oI (z:Value) (hz:z.cells=#[z]) (n:Nat):(madeCells z.cells (n*1)).toList=List.replicate n z:=by
 rw [hz];unfold madeCells;apply List.ext_getElem
 ·simp
 ·intro i h1 h2;simp [Nat.mod_one]
theorem xV:(Tryz.prog.info? 4).map (fun i=>(i.zero,i.size,i.bytes))=some (some (.bool false),1,1):=by kernel_rfl
variable {ops:Array Oper} {rest:List Oper} {o:Oper} {a:Act} {Q:Exit->Act->World->Prop} {w:World}
theorem cS (t e:TypeId) (z:Value) (bytes:Nat) (hi:(Tryz.prog.info? e).map (fun i=>(i.zero,i.size,i.bytes))=some (some z,1,bytes)) (ht:Tryz.prog.underlying t=some (.slice e)) (hz:z.cells=#[z]) (hg:o.guard=none) (l c:Operand)
  (hop:o.op=Op.makeSlice t l c) (n:Nat) (hl:a.eval l=.int .i64 n) (hc:a.eval c=.int .i64 n) (hb:bytes*n<=281474976710656) (hm:n<=maxLen)
  (hK:∀ w',aj w' w.heap.size e (List.replicate n z)->ag w w'->wpList Tryz.prog ops Q rest (a.put o.dst (.slice (some ⟨w.heap.size,0,none⟩) n n)) w'):wpList Tryz.prog ops Q (o :: rest) a w:=by
 obtain ⟨i0,hi0,hz0,hz1,hz2⟩:=info_parts hi;refine wpList_make_full w hg l c t hop w.heap.size e i0 z 1 ht hi0 hz0 hz1 .i64 .i64 _ _ n hl hc rfl rfl (by rw [hz2];exact hb) hm (Nat.le_refl _) ?_;intro w' h1 h2;rw [oI z hz n] at h1;refine hK w' ?_ ⟨h2.os,h2.tape,h2.output,h2.size,fun k hk=>h2.block k hk (by simp)⟩;obtain ⟨h3,h4⟩:=h1;rcases h4 with ⟨h4,_⟩ | ⟨g,cap,cur,h4,h5,h6,h7,h8,h9,h10⟩
 ·cases h4
 ·cases h4;exact ⟨cur,h6,by simp;omega,by simpa using h10⟩
end
structure Nd where
 kind:Int
 k:Int
 args:List Int
structure Fm where
 vars:Int
 nodes:List Nd
 top:Int
def iy (kind:Int) (n:Nat):Bool:=if kind=0 then decide (n=0) else if kind=1 then decide (n=1) else decide (1<=n/\n<=16)
def jQ (kind k:Int) (n:Nat):Nat:=if kind=0 then (if k=0\/k=1 then 0 else 3) else if kind=4 then (if 1<=k/\k<=n then 0 else 3) else if k=0 then 0 else 2
def fV (b:Int) (x:Nd):Nat :=
 if x.kind<0\/5<x.kind then 7 else if iy x.kind x.args.length=false then 11
 else if x.args.all (fun a=>decide (0<=a/\a<b))=false then 10 else jQ x.kind x.k x.args.length
def eC (b:Int):List Nd->Nat
 | []=>0
 | x :: l=>if fV b x=0 then eC (b+1) l else fV b x
def qA (f:Fm) (arg:Int):Bool:=decide (0<=f.vars/\0<=arg/\(arg<f.vars\/arg - f.vars<f.nodes.length))
def fJ (f:Fm):Nat :=
 if f.vars<0\/24<f.vars then 3 else if 128<f.nodes.length then 4 else if eC f.vars f.nodes=0 then (if qA f f.top then 0 else 10) else eC f.vars f.nodes
def qT (w:World) (b o:Nat) (x:Nd):Prop :=
 ∃ u,w.cell? ⟨b,o,none⟩=some (.int .i64 x.kind)/\w.cell? ⟨b,o+1,none⟩=some (.int .i64 x.k)/\w.cell? ⟨b,o+2,none⟩=some u/\am w u x.args
def bp (w:World) (v:Value) (xs:List Nd):Prop :=
 ∃ (a:Option Addr) (c:Nat),v=.slice a xs.length c/\(xs.length<=c/\(a=none->c=0))/\xs.length<=140737488355328 /\
  ∀ i (h:i<xs.length),∃ b o,a=some ⟨b,o,none⟩/\qT w b (o+i*3) xs[i]
theorem eZ {w:World} {b o:Nat} {kind k:Int} {u:Value} (h1:w.cell? ⟨b,o,none⟩=some (.int .i64 kind)) (h2:w.cell? ⟨b,o+1,none⟩=some (.int .i64 k)) (h3:w.cell? ⟨b,o+2,none⟩=some u):w.rangeAt b o [.int .i64 kind,.int .i64 k,u]:=by
 intro j v hj
 match j,hj with
 | 0,hj=>simp at hj;subst hj;exact h1
 | 1,hj=>simp at hj;subst hj;exact h2
 | 2,hj=>simp at hj;subst hj;exact h3
theorem qT.kept {w w':World} {b o:Nat} {x:Nd} (h:qT w b o x) (hk:ag w w'):qT w' b o x:=by
 obtain ⟨u,h1,h2,h3,h4⟩:=h;exact ⟨u,hk.cell h1,hk.cell h2,hk.cell h3,h4.kept hk⟩
theorem bp.kept {w w':World} {v:Value} {xs:List Nd} (h:bp w v xs) (hk:ag w w'):bp w' v xs:=by
 obtain ⟨a,c,h1,h2,h3,h4⟩:=h;exact ⟨a,c,h1,h2,h3,fun i hi=>let ⟨b,o,h5,h6⟩:=h4 i hi;⟨b,o,h5,h6.kept hk⟩⟩
theorem pU (kind:Int) (n:Nat) (w:World):Calls Tryz.prog 119 #[.int .i64 kind,.int .i64 n] w fun e w'=>e=.returned (.bool (iy kind n))/\w=w':=by
 unfold iy;by_cases h0:kind=0
 ·subst h0;go_enter Tryz.func119,Tryz.ntmps119;go_wp2;go_ret;exact ⟨by simp;congr 1;rw [Bool.eq_iff_iff];simp;try omega,rfl⟩
 ·rw [if_neg h0];by_cases h1:kind=1
  ·subst h1;go_enter Tryz.func119,Tryz.ntmps119;go_wp2;go_ret;exact ⟨by simp;congr 1;rw [Bool.eq_iff_iff];simp;try omega,rfl⟩
  ·rw [if_neg h1];have b0:(kind == 0)=false:=by simpa using h0
   have b1:(kind == 1)=false:=by simpa using h1
   clear h0 h1;by_cases h2:1<=n
   ·by_cases h3:n<=16
    ·rw [decide_eq_true ⟨h2,h3⟩];have h4:(n:Int)<=16:=by omega
     go_enter Tryz.func119,Tryz.ntmps119;go_wp2;go_ret;exact ⟨rfl,rfl⟩
    ·rw [decide_eq_false fun h=>h3 h.2];have h4:¬ (n:Int)<=16:=by omega
     go_enter Tryz.func119,Tryz.ntmps119;go_wp2;go_ret;exact ⟨rfl,rfl⟩
   ·rw [decide_eq_false fun h=>h2 h.1];have h4:¬ (1:Int)<=(n:Int):=by omega
    go_enter Tryz.func119,Tryz.ntmps119;go_wp2;go_ret;exact ⟨rfl,rfl⟩
def bz:Nd:=⟨0,0,[]⟩
def bR (m:List Bool) (args:List Int):List Bool:=args.foldl (fun m a=>m.set a.toNat true) m
def ct (V:Nat) (nodes:List Nd):Nat->List Bool->List Bool
 | 0,m=>m
 | k+1,m=>ct V nodes k (if m.getD (V+k) false then bR m (nodes.getD k bz).args else m)
def aR (V T:Nat) (nodes:List Nd):List Bool:=ct V nodes nodes.length ((List.replicate (V+nodes.length) false).set T true)
theorem fE (args:List Int):∀ m,(bR m args).length=m.length:=by
 induction args with
 | nil=>intro m;rfl
 | cons a l ih=>intro m;show (bR (m.set a.toNat true) l).length=_;rw [ih];simp
theorem sH (V:Nat) (nodes:List Nd):∀ k m,(ct V nodes k m).length=m.length:=by
 intro k;induction k with
 | zero=>intro m;rfl
 | succ k ih =>
  intro m;unfold ct;rw [ih];split
  ·exact fE _ _
  ·rfl
theorem oE (V T:Nat) (nodes:List Nd):(aR V T nodes).length=V+nodes.length:=by
 unfold aR;rw [sH];simp
structure Ok (f:Fm) (V T:Nat):Prop where
 vars:f.vars=V
 top:f.top=T
 v24:V<=24
 n128:f.nodes.length<=128
 tlt:T<V+f.nodes.length
 kind:∀ i (h:i<f.nodes.length),0<=f.nodes[i].kind/\f.nodes[i].kind<=5
 args:∀ i (h:i<f.nodes.length),∀ a∈f.nodes[i].args,0<=a/\a<(V:Int)+i
 argc:∀ i (h:i<f.nodes.length),iy f.nodes[i].kind f.nodes[i].args.length=true
 arity:∀ i (h:i<f.nodes.length),jQ f.nodes[i].kind f.nodes[i].k f.nodes[i].args.length=0
theorem jA {kind:Int} {n:Nat} (h:iy kind n=true):n<=16:=by
 unfold iy at h;split at h
 ·simp at h;omega
 ·split at h
  ·simp at h;omega
  ·simp at h;omega
theorem gy {b:Int} {x:Nd} (h:fV b x=0):(0<=x.kind/\x.kind<=5)/\iy x.kind x.args.length=true/\(∀ a∈x.args,0<=a/\a<b)/\jQ x.kind x.k x.args.length=0:=by
 unfold fV at h;split at h
 ·cases h
 ·split at h
  ·cases h
  ·split at h
   ·cases h
   ·rename_i h1 h2 h3;refine ⟨by omega,by simpa using h2,?_,h⟩;rw [Bool.not_eq_false,List.all_eq_true] at h3;intro a ha;simpa using h3 a ha
theorem re (b:Int) (xs:List Nd) (h:eC b xs=0):∀ i (hi:i<xs.length),fV (b+i) xs[i]=0:=by
 induction xs generalizing b with
 | nil=>intro i hi;simp at hi
 | cons x xs ih =>
  unfold eC at h;split at h
  ·rename_i h0;intro i hi;cases i with
   | zero=>simpa using h0
   | succ i =>
    have:=ih (b+1) h i (by simpa using hi);simpa [Int.add_assoc,Int.add_comm 1] using this
  ·rename_i h0;exact absurd h h0
theorem EG (f:Fm) (h:fJ f=0):∃ V T,Ok f V T:=by
 unfold fJ at h;split at h
 ·cases h
 ·split at h
  ·cases h
  ·split at h
   ·rename_i h1 h2 h3;split at h
    ·rename_i h4;simp only [qA,decide_eq_true_eq] at h4;obtain ⟨V,hV⟩:=Int.eq_ofNat_of_zero_le h4.1;obtain ⟨T,hT⟩:=Int.eq_ofNat_of_zero_le h4.2.1;have hz:=re _ _ h3;refine ⟨V,T,hV,hT,by omega,by omega,by omega,?_,?_,?_,?_⟩
     ·exact fun i hi=>(gy (hz i hi)).1
     ·intro i hi a ha;have:=(gy (hz i hi)).2.2.1 a ha;omega
     ·exact fun i hi=>(gy (hz i hi)).2.1
     ·exact fun i hi=>(gy (hz i hi)).2.2.2
    ·cases h
   ·rename_i h3;exact absurd h h3
theorem dW (m:List Bool) (i:Nat) (h:i<m.length):(m.map Value.bool)[i]'(by simpa using h)=.bool (m.getD i false):=by
 simp [List.getD_eq_getElem?_getD,h]
theorem qd (v:Value) (f:Fm) (V T:Nat) (w:World) (hv:bp w v f.nodes) (hok:Ok f V T) :
  Calls Tryz.prog 136 #[.agg #[.int .i64 V,v,.int .i64 T]] w fun e w'=>∃ g,e=.returned (.slice (some ⟨g,0,none⟩) (V+f.nodes.length) (V+f.nodes.length))/\w.heap.size<=g/\aj w' g 4 ((aR V T f.nodes).map .bool)/\ag w w':=by
 obtain ⟨a,c,rfl,_,hl,hx⟩:=hv;obtain ⟨n,hn⟩:∃ n,n=f.nodes.length:=⟨_,rfl⟩;rw [<-hn] at hl⊢;have hn9:n<=128:=by rw [hn];exact hok.n128
 have hV9:=hok.v24;have hT9:T<V+n:=by rw [hn];exact hok.tlt
 obtain ⟨R,hR⟩:∃ R,R=aR V T f.nodes:=⟨_,rfl⟩;rw [<-hR];have HX:=af hx;have HN:=af hn;have HO:=af hok;have HR:=af hR;have hTV:((T:Nat):Int)<((V+n:Nat):Int):=by omega
 have hTV2:(T:Int)<(V:Int)+(n:Int):=by omega
 clear hx hn hok hR hl;go_enter Tryz.func136,Tryz.ntmps136;go_wp2_with (at_make;refine cS 132 4 _ 1 xV Tryz.underlying132 rfl rfl _ _ rfl (V+n) (by show Value.int .i64 ((V:Int)+(n:Int))=.int .i64 ((V+n:Nat):Int);rw [Int.natCast_add]) (by show Value.int .i64 ((V:Int)+(n:Int))=.int .i64 ((V+n:Nat):Int);rw [Int.natCast_add]) (by omega) (by unfold maxLen;omega) ?_;intro w1 hr1 hk1;simp only [World.size_alloc] at hr1;have hs1:=hk1.size;simp only [World.size_alloc] at hs1;have c0:=hr1.cell (i:=T) (by simp;omega);simp only [List.getElem_replicate] at c0;have f0:=hr1.free T;have b0:=hk1.cell (p:=⟨w.heap.size,0,none⟩) (v:=.int .i64 V) (by simp);have b1:=hk1.cell (p:=⟨w.heap.size,1,none⟩) (v:=.slice a n c) (by simp);have b2:=hk1.cell (p:=⟨w.heap.size,2,none⟩) (v:=.int .i64 T) (by simp);have HR1:=af hr1;clear hr1);have hKb:ag (w.alloc (.cells #[.int .i64 V,.slice a n c,.int .i64 T] 41)) (w1.setCell ⟨w.heap.size+1,T,none⟩ (.bool true)):=hk1.store (by simp) _ _;have hRow:=HR1.out.store T (.bool true)
 have hRw:aj (w1.setCell ⟨w.heap.size+1,T,none⟩ (.bool true)) (w.heap.size+1) 4 ((((List.replicate (V+n) false).set T true)).map .bool):=by
  rw [List.map_set,List.map_replicate];exact hRow
 clear hRow c0 f0 b0 b1 b2 hs1 hk1 HR1;go_loopw [4,6,40] (fun i _ _ wr=>∃ (k:Nat) (m:List Bool),k<=n/\i=.int .i64 ((k:Int) - 1)/\Hid (m.length=V+n/\ct V f.nodes k m=R)/\aj wr (w.heap.size+1) 4 (m.map .bool)/\ag (w.alloc (.cells #[.int .i64 V,.slice a n c,.int .i64 T] 41)) wr) (fun i _ _ _=>(intOf i+1).toNat)
 case atStart=>exact ⟨n,_,Nat.le_refl _,rfl,af ⟨by simp,by rw [HR.out,HN.out];rfl⟩,hRw,hKb⟩
 case round =>
  clear hRw hKb;obtain ⟨k,m,hk,rfl,HM,hrow,hK⟩:=hrel;have hlen:=HM.out.1;by_cases hpos:0<k
  ·obtain ⟨q,rfl⟩:∃ q,k=q+1:=⟨k - 1,by omega⟩;have e1:((q+1:Nat):Int) - 1=(q:Int):=by omega
   rw [e1];have hqx:q<f.nodes.length:=by have:=HN.out;omega
   obtain ⟨b,o,rfl,u,hc1,hc2,hc3,hI⟩:=HX.out q hqx;have hn3:=(((ag.refl w).alloc (.cells #[.int .i64 V,.slice (some ⟨b,o,none⟩) n c,.int .i64 T] 41)).trans hK).cell hc3;have b0:=hK.cell (p:=⟨w.heap.size,0,none⟩) (v:=.int .i64 V) (by simp);have b1:=hK.cell (p:=⟨w.heap.size,1,none⟩) (v:=.slice (some ⟨b,o,none⟩) n c) (by simp);have cm:=hrow.cell (i:=V+q) (by simp;omega);rw [dW m (V+q) (by omega)] at cm;have harg:∀ x∈f.nodes[q].args,0<=x/\x<(V:Int)+q:=HO.out.args q hqx
   have hgo:ct V f.nodes (q+1) m=ct V f.nodes q (if m.getD (V+q) false then bR m f.nodes[q].args else m):=by
    show ct V f.nodes q (if m.getD (V+q) false then bR m (f.nodes.getD q bz).args else m)=_;rw [show f.nodes.getD q bz=f.nodes[q] by simp [List.getD_eq_getElem?_getD,hqx]]
   obtain ⟨args,hargs⟩:∃ x,x=f.nodes[q].args:=⟨_,rfl⟩;rw [<-hargs] at harg hgo hI;obtain ⟨ax,cx,rfl,_,hlx,hcx⟩:=hI;obtain ⟨na,hna⟩:∃ x,x=args.length:=⟨_,rfl⟩;rw [<-hna] at hn3 hlx;have hq1:(0:Int)<=(V:Int)+(q:Int)/\(V:Int)+(q:Int)<(V:Int)+(n:Int):=by omega
   have hq2:(V:Int)+(q:Int)<((V+n:Nat):Int):=by omega
   have hq3:(q:Int)<(n:Int):=by omega
   have HG:=af hgo;have HAR:=af harg;have HCX:=af hcx;have HNA:=af hna;have HROW:=af hrow;have HKK:=af hK;clear hc1 hc2 hc3 harg hgo hcx hna hargs hrow e1;cases hmk:m.getD (V+q) false with
   | false =>
    rw [hmk] at cm;have HMK:=af hmk;clear hmk hK;go_wp2;go_roundw
    case rel=>exact ⟨q,m,by omega,by go_num,af ⟨hlen,by have:=HM.out.2;rw [HG.out,HMK.out] at this;exact this⟩,HROW.out,HKK.out⟩
    case measure=>simp [intOf]
   | true =>
    rw [hmk] at cm;have HMK:=af hmk;clear hmk hK;go_wp2;obtain ⟨wo,hwo⟩:∃ wo:World,wo=wr:=⟨_,rfl⟩;rw [<-hwo] at HROW HKK hn3 b0 b1 cm;clear hn3 b0 b1 cm;go_loopw [6,40] (fun _ j wi=>∃ (p:Nat) (m2:List Bool),p<=na/\j=.int .i64 p/\Hid (m2=bR m (args.take p))/\aj wi (w.heap.size+1) 4 (m2.map .bool)/\ag (w.alloc (.cells #[.int .i64 V,.slice (some ⟨b,o,none⟩) n c,.int .i64 T] 41)) wi) (fun _ j _=>na - (intOf j).toNat)
    case atStart=>exact ⟨0,m,Nat.zero_le _,rfl,af rfl,by rw [<-hwo];exact HROW.out,by rw [<-hwo];exact HKK.out⟩
    case round =>
     obtain ⟨p,m2,hp,rfl,HM2,hrow2,hK2⟩:=hrel;have hlen2:m2.length=V+n:=by rw [HM2.out,fE];exact hlen
     by_cases hpa:p<na
     ·have hpx:p<args.length:=by have:=HNA.out;omega
      obtain ⟨b2,o2,rfl,hc0⟩:=HCX.out p hpx;have hcell:=(((ag.refl w).alloc (.cells #[.int .i64 V,.slice (some ⟨b,o,none⟩) n c,.int .i64 T] 41)).trans hK2).cell hc0;obtain ⟨y,hy⟩:∃ y,y=args[p]:=⟨_,rfl⟩;have hy2:=HAR.out args[p] (List.getElem_mem _);rw [<-hy] at hcell hy2;obtain ⟨Y,hY⟩:=Int.eq_ofNat_of_zero_le hy2.1;subst hY
      have hstep:bR m (args.take (p+1))=(bR m (args.take p)).set Y true:=by
       unfold bR;rw [List.take_succ_eq_append_getElem hpx,List.foldl_append,<-hy];simp
      have hYl:Y<V+n:=by omega
      have cY:=hrow2.cell (i:=Y) (by simp;omega);rw [dW m2 Y (by omega)] at cY;have fY:=hrow2.free Y;have hnew:=hrow2.store Y (.bool true);rw [<-List.map_set] at hnew;have hKn:=hK2.store (g:=w.heap.size+1) (by simp) Y (.bool true);have hY1:(Y:Int)<(V:Int)+(n:Int):=by omega
      have hY2:(Y:Int)<((V+n:Nat):Int):=by omega
      have HST:=af hstep;have HNW:=af hnew;have HKN:=af hKn;clear hc0 hy hstep hnew hKn hK2 hrow2 hlen2;go_wp2;go_roundw
      case rel=>exact ⟨p+1,_,by omega,by go_num,af (by rw [HST.out,<-HM2.out]),HNW.out,HKN.out⟩
      case measure=>simp [intOf];omega
     ·have e:p=na:=by omega
      have hfin:m2=bR m args:=by rw [HM2.out,e,List.take_of_length_le (by have:=HNA.out;omega)]
      have HFIN:=af hfin;have HR2:=af hrow2;have HK2:=af hK2;clear hfin e hrow2 hK2 hlen2;go_wp2;go_roundw
      case rel=>exact ⟨q,m2,by omega,by go_num,af ⟨by rw [HFIN.out,fE];exact hlen,by have:=HM.out.2;rw [HG.out,HMK.out] at this;rw [HFIN.out];exact this⟩,HR2.out,HK2.out⟩
      case measure=>simp [intOf]
  ·have e:k=0:=by omega
   subst e;have hRm:R=m:=HM.out.2.symm;have HRM:=af hRm;have HRW:=af hrow;have HKK:=af hK;clear hRm hrow hK;go_wp2;go_ret;exact ⟨_,rfl,by omega,by rw [HRM.out];exact HRW.out,((ag.refl _).alloc _).trans HKK.out⟩
theorem pV (vars top:Int) (v:Value) (xs:List Nd) (i:Nat) (w:World) (hv:bp w v xs) (hi:i<xs.length) (h0:0<=vars) (h24:vars<=24) (hi9:i<=1000) :
  Calls Tryz.prog 71 #[.agg #[.int .i64 vars,v,.int .i64 top],.int .i64 i] w fun e w'=>e=.returned (aY (fV (vars+i) xs[i]))/\ag w w':=by
 obtain ⟨a,c,rfl,_,hl,hx⟩:=hv;obtain ⟨b,o,rfl,u,hc1,hc2,hc3,hI⟩:=hx i hi;obtain ⟨nl,hnl⟩:∃ nl,nl=xs.length:=⟨_,rfl⟩;obtain ⟨x,hxx⟩:∃ x,x=xs[i]:=⟨_,rfl⟩;rw [<-hxx] at hc1 hc2 hI⊢;rw [<-hnl] at hi hl⊢;obtain ⟨kind,k,args⟩:=x;obtain ⟨aa,ca,rfl,_,hla,hca⟩:=hI;simp only at hc1 hc2 hc3;obtain ⟨n,hn⟩:∃ n,n=args.length:=⟨_,rfl⟩;simp only at hca hla;rw [<-hn] at hc3 hla;have HC:=af hca;have HN:=af hn;have hlt:(i:Int)<(nl:Int):=by omega
 have HR:=af (fun w' (hk:ag w w')=>eZ (hk.cell hc1) (hk.cell hc2) (hk.cell hc3));clear hx hxx hca hnl hn hc1 hc2 hc3;unfold fV;simp only;by_cases hk:kind<0\/5<kind
 ·rw [if_pos hk];rcases hk with hk | hk
  all_goals
   go_enter Tryz.func71,Tryz.ntmps71;go_wp2_with (refine wpList_load_mid rfl 106 _ rfl b (o+i*3) rfl _ _ (HR.out _ ((ag.refl _).alloc _)) Tryz.underlying106 rfl (by kernel_rfl) ?_);go_ret;exact ⟨rfl,((ag.refl _).alloc _).alloc _⟩
 ·rw [if_neg hk];have hk1:¬ kind<0:=by omega
  have hk2:¬ 5<kind:=by omega
  clear hk;have HA:=af (fun W=>pU kind n W);have hn2:args.length=n:=HN.out.symm;rw [hn2];clear hn2;cases hao:iy kind n with
  | false =>
   rw [if_pos rfl];have HAO:=af hao;clear hao;go_enter Tryz.func71,Tryz.ntmps71
   go_wp2_with (first
    | (refine wpList_load_mid rfl 106 _ rfl b (o+i*3) rfl _ _ (HR.out _ ((ag.refl _).alloc _)) Tryz.underlying106 rfl (by kernel_rfl) ?_)
    | (go_at_call 119;refine (HA.out _).mono ?_;rintro e w2 ⟨rfl,rfl⟩;rw [HAO.out]))
   go_ret;exact ⟨rfl,((ag.refl _).alloc _).alloc _⟩
  | true =>
   rw [if_neg (by simp)];have HAO:=af hao;clear hao;have hsum:vars+(i:Int)<=1024/\0<=vars+(i:Int):=by omega
   obtain ⟨r,hr⟩:∃ r,r=(if args.all (fun a=>decide (0<=a/\a<vars+(i:Int)))=false then 10 else jQ kind k n):=⟨_,rfl⟩;rw [<-hr];have HRR:=af hr;clear hr;go_enter Tryz.func71,Tryz.ntmps71
   go_wp2_with (first
    | (refine wpList_load_mid rfl 106 _ rfl b (o+i*3) rfl _ _ (HR.out _ ((ag.refl _).alloc _)) Tryz.underlying106 rfl (by kernel_rfl) ?_)
    | (go_at_call 119;refine (HA.out _).mono ?_;rintro e w2 ⟨rfl,rfl⟩;rw [HAO.out]))
   go_loop [7,33] (fun _ j=>∃ q:Nat,q<=n/\j=.int .i64 q/\Hid (∀ x∈args.take q,0<=x/\x<vars+(i:Int))) (fun _ j=>n - (intOf j).toNat)
   case atStart=>exact ⟨0,Nat.zero_le _,rfl,af (by simp)⟩
   case round =>
    obtain ⟨q,hq,rfl,HF⟩:=hrel;by_cases hqn:q<n
    ·have hqx:q<args.length:=by have:=HN.out;omega
     obtain ⟨b2,o2,rfl,hc0⟩:=HC.out q hqx;have hcell:=(((ag.refl w).alloc (.cells #[.int .i64 vars,.slice (some ⟨b,o,none⟩) nl c,.int .i64 top] 41)).alloc (.cells #[.int .i64 kind,.int .i64 k,.slice (some ⟨b2,o2,none⟩) n ca] 106)).cell hc0;obtain ⟨y,hy⟩:∃ y,y=args[q]:=⟨_,rfl⟩;rw [<-hy] at hcell;have HY:=af hy;clear hc0 hy;by_cases hy0:y<0
     ·go_wp2;go_ret;refine ⟨?_,((ag.refl _).alloc _).alloc _⟩;rw [HRR.out,if_pos]
      ·rfl
      ·rw [List.all_eq_false];exact ⟨y,by rw [HY.out];exact List.getElem_mem _,by simp;omega⟩
     ·by_cases hy1:y<vars+(i:Int)
      ·go_wp2;go_round
       case rel =>
        refine ⟨q+1,by omega,by go_num,af ?_⟩;intro z hz;rw [List.take_succ_eq_append_getElem hqx] at hz;rcases List.mem_append.1 hz with hz | hz
        ·exact HF.out z hz
        ·simp at hz;rw [hz,<-HY.out];omega
       case measure=>simp [intOf];omega
      ·go_wp2;go_ret;refine ⟨?_,((ag.refl _).alloc _).alloc _⟩;rw [HRR.out,if_pos]
       ·rfl
       ·rw [List.all_eq_false];exact ⟨y,by rw [HY.out];exact List.getElem_mem _,by simp;omega⟩
    ·have hall:r=jQ kind k n:=by
      rw [HRR.out,if_neg];have hh:=HF.out;rw [List.take_of_length_le (by have:=HN.out;omega)] at hh;rw [Bool.not_eq_false,List.all_eq_true];intro z hz;exact decide_eq_true (hh z hz)
     have HAL:=af hall;clear hall;by_cases e0:kind=0
     ·by_cases k0:k=0
      ·subst e0 k0;go_wp2;go_ret;exact ⟨by rw [HAL.out];rfl,((ag.refl _).alloc _).alloc _⟩
      ·by_cases k1:k=1
       ·subst e0 k1;go_wp2;go_ret;exact ⟨by rw [HAL.out];rfl,((ag.refl _).alloc _).alloc _⟩
       ·have b0:(k == 0)=false:=by simpa using k0
        have b1:(k == 1)=false:=by simpa using k1
        have b2:(k != 0)=true:=by simpa using k0
        have b3:(k != 1)=true:=by simpa using k1
        subst e0;go_wp2;go_ret;exact ⟨by rw [HAL.out,jQ,if_pos rfl,if_neg (by omega)];rfl,((ag.refl _).alloc _).alloc _⟩
     ·by_cases e4:kind=4
      ·by_cases k0:1<=k
       ·by_cases k1:k<=n
        ·subst e4;go_wp2;go_ret;exact ⟨by rw [HAL.out,jQ,if_neg (by omega),if_pos rfl,if_pos (by omega)];rfl,((ag.refl _).alloc _).alloc _⟩
        ·subst e4;go_wp2;go_ret;exact ⟨by rw [HAL.out,jQ,if_neg (by omega),if_pos rfl,if_neg (by omega)];rfl,((ag.refl _).alloc _).alloc _⟩
       ·subst e4;go_wp2;go_ret;exact ⟨by rw [HAL.out,jQ,if_neg (by omega),if_pos rfl,if_neg (by omega)];rfl,((ag.refl _).alloc _).alloc _⟩
      ·by_cases k0:k=0
       ·subst k0;go_wp2;go_ret;exact ⟨by rw [HAL.out,jQ,if_neg e0,if_neg e4,if_pos rfl];rfl,((ag.refl _).alloc _).alloc _⟩
       ·have b0:(k == 0)=false:=by simpa using k0
        have b2:(k != 0)=true:=by simpa using k0
        go_wp2;go_ret;exact ⟨by rw [HAL.out,jQ,if_neg e0,if_neg e4,if_neg k0];rfl,((ag.refl _).alloc _).alloc _⟩
abbrev sx (v:Value) (f:Fm):Value:=.agg #[.int .i64 f.vars,v,.int .i64 f.top]
theorem vX (v:Value) (f:Fm) (w:World) (hv:bp w v f.nodes) (h0:0<=f.vars) (h24:f.vars<=24) (arg:Int) (ht:arg<=9223372036854775807) :
  Calls Tryz.prog 72 #[sx v f,.int .i64 arg] w fun e w'=>e=.returned (.bool (qA f arg))/\ag w w':=by
 obtain ⟨a,c,rfl,_,hl,hx⟩:=hv;obtain ⟨vars,nodes,top⟩:=f;simp only at hl hx h0 h24;unfold qA;simp only;clear hx;obtain ⟨n,hn⟩:∃ n,n=nodes.length:=⟨_,rfl⟩;rw [<-hn] at hl⊢;clear hn;by_cases h1:0<=arg
 ·by_cases h2:arg<vars
  ·rw [decide_eq_true ⟨h0,h1,.inl h2⟩];go_enter Tryz.func72,Tryz.ntmps72;go_wp2;go_ret;exact ⟨rfl,(ag.refl _).alloc _⟩
  ·by_cases h3:arg - vars<n
   ·rw [decide_eq_true ⟨h0,h1,.inr h3⟩];go_enter Tryz.func72,Tryz.ntmps72;go_wp2;go_ret;exact ⟨rfl,(ag.refl _).alloc _⟩
   ·rw [decide_eq_false (by rintro ⟨_,_,h | h⟩;exact h2 h;exact h3 h)];go_enter Tryz.func72,Tryz.ntmps72;go_wp2;go_ret;exact ⟨rfl,(ag.refl _).alloc _⟩
 ·rw [decide_eq_false fun h=>h1 h.2.1];go_enter Tryz.func72,Tryz.ntmps72;go_wp2;go_ret;exact ⟨rfl,(ag.refl _).alloc _⟩
theorem tX (b:Int) (xs:List Nd):∀ (k:Nat) (h:k<xs.length),(∀ j (hj:j<k),fV (b+j) (xs[j]'(by omega))=0)->fV (b+k) xs[k]≠0->eC b xs=fV (b+k) xs[k]:=by
 induction xs generalizing b with
 | nil=>intro k h;simp at h
 | cons x xs ih =>
  intro k h h1 h2;unfold eC;cases k with
  | zero=>simp at h2⊢;exact fun h=>absurd h h2
  | succ k =>
   have h3:=h1 0 (by omega);simp at h3;rw [if_pos h3]
   have:=ih (b+1) k (by simpa using h) (fun j hj=>by
    have:=h1 (j+1) (by omega);simpa [Int.add_assoc,Int.add_comm 1] using this) (by simpa [Int.add_assoc,Int.add_comm 1] using h2)
   rw [this];simp [Int.add_assoc,Int.add_comm 1]
theorem rd (b:Int) (xs:List Nd) (h:∀ j (hj:j<xs.length),fV (b+j) xs[j]=0):eC b xs=0:=by
 induction xs generalizing b with
 | nil=>rfl
 | cons x xs ih =>
  unfold eC;have h3:=h 0 (by simp);simp at h3;rw [if_pos h3];refine ih (b+1) fun j hj=>?_
  have:=h (j+1) (by simpa using hj);simpa [Int.add_assoc,Int.add_comm 1] using this
theorem fU (v:Value) (f:Fm) (w:World) (hv:bp w v f.nodes) (ht:f.top<=9223372036854775807) :
  Calls Tryz.prog 30 #[sx v f] w fun e w'=>e=.returned (aY (fJ f))/\ag w w':=by
 obtain ⟨r,hr⟩:∃ r,r=fJ f:=⟨_,rfl⟩;rw [<-hr];have HV:=af hv;have HRR:=af hr;obtain ⟨a,c,rfl,_,hl,hx⟩:=hv;obtain ⟨n,hn⟩:∃ n,n=f.nodes.length:=⟨_,rfl⟩;rw [<-hn] at hl HV⊢;have HN:=af hn;obtain ⟨vars,hvars⟩:∃ x,x=f.vars:=⟨_,rfl⟩;obtain ⟨top,htop⟩:∃ x,x=f.top:=⟨_,rfl⟩;rw [<-htop] at ht;have HVA:=af hvars;have HTO:=af htop;unfold sx;rw [<-hvars,<-htop];clear hx hr hn hvars htop;by_cases h:vars<0\/24<vars
 ·have h9:r=3:=by rw [HRR.out,fJ,if_pos (by rw [<-HVA.out];exact h)]
  subst h9;rcases h with h | h
  all_goals
   go_enter Tryz.func30,Tryz.ntmps30;go_wp2;go_ret;exact ⟨rfl,(ag.refl _).alloc _⟩
 ·have h0:0<=vars:=by omega
  have h24:vars<=24:=by omega
  have HH:=af (show ¬ (f.vars<0\/24<f.vars) by rw [<-HVA.out];exact h);clear h;by_cases hn:128<n
  ·have h9:r=4:=by rw [HRR.out,fJ,if_neg HH.out,if_pos (by rw [<-HN.out];exact hn)]
   subst h9;go_enter Tryz.func30,Tryz.ntmps30;go_wp2;go_ret;exact ⟨rfl,(ag.refl _).alloc _⟩
  ·have HH2:=af (show ¬ 128<f.nodes.length by rw [<-HN.out];exact hn);go_enter Tryz.func30,Tryz.ntmps30;go_wp2;go_loopw [3,4,22] (fun _ _ i wr=>∃ k:Nat,k<=n/\i=.int .i64 k/\Hid (∀ j (hj:j<f.nodes.length),j<k->fV (f.vars+j) f.nodes[j]=0)/\ag w wr/\wr.cell? ⟨w.heap.size,0,none⟩=some (.int .i64 vars)/\wr.cell? ⟨w.heap.size,1,none⟩=some (.slice a n c)/\wr.cell? ⟨w.heap.size,2,none⟩=some (.int .i64 top)) (fun _ _ i _=>n - (intOf i).toNat)
   case atStart=>exact ⟨0,Nat.zero_le _,rfl,af (by intro j _ h;omega),(ag.refl _).alloc _,by simp,by simp,by simp⟩
   case round =>
    obtain ⟨k,hk,rfl,HF,hK,c0,c1,c2⟩:=hrel
    have hload:wr.rangeAt w.heap.size 0 [.int .i64 vars,.slice a n c,.int .i64 top]:=by
     intro j v hj
     match j,hj with
     | 0,hj=>simp at hj;subst hj;exact c0
     | 1,hj=>simp at hj;subst hj;exact c1
     | 2,hj=>simp at hj;subst hj;exact c2
    have HLD:=af hload;clear hload;by_cases hlt:k<n
    ·have hkx:k<f.nodes.length:=by have:=HN.out;omega
     have hcall:=pV f.vars f.top _ f.nodes k wr (HV.out.kept hK) hkx (by rw [<-HVA.out];exact h0) (by rw [<-HVA.out];exact h24) (by omega);rw [<-HVA.out,<-HTO.out] at hcall;obtain ⟨q,hq⟩:∃ q,q=fV (vars+k) f.nodes[k]:=⟨_,rfl⟩;rw [<-hq] at hcall;have HQ:=af hq;have HCL:=af hcall;clear hq hcall;by_cases hq0:q=0
     ·have HE:=af (show aY q=.nilIface by rw [hq0];rfl)
      go_wp2_with (first
       | (with_reducible refine wpList_load_mid rfl 41 _ rfl w.heap.size 0 rfl _ _ HLD.out Tryz.underlying41 rfl (by kernel_rfl) ?_)
       | (go_at_call 71;refine HCL.out.mono ?_;rintro e w2 ⟨rfl,hk2⟩;rw [HE.out]))
      go_roundw
      case rel =>
       refine ⟨k+1,by omega,by go_num,af ?_,hK.trans hk2,hk2.cell c0,hk2.cell c1,hk2.cell c2⟩;intro j hj hjk;by_cases e:j=k
       ·subst e;rw [<-HVA.out,<-HQ.out];exact hq0
       ·exact HF.out j hj (by omega)
      case measure=>simp [intOf];omega
     ·have HE:=af (show aY q=.iface 60 (.int .i64 q) from aN hq0)
      go_wp2_with (first
       | (with_reducible refine wpList_load_mid rfl 41 _ rfl w.heap.size 0 rfl _ _ HLD.out Tryz.underlying41 rfl (by kernel_rfl) ?_)
       | (go_at_call 71;refine HCL.out.mono ?_;rintro e w2 ⟨rfl,hk2⟩;rw [HE.out]))
      go_ret;refine ⟨?_,hK.trans hk2⟩;have e1:=tX f.vars f.nodes k hkx (fun j hj=>HF.out j (by omega) hj) (by rw [<-HVA.out,<-HQ.out];exact hq0)
      have e2:r=q:=by
       rw [HRR.out,fJ,if_neg HH.out,if_neg HH2.out];rw [<-HVA.out,<-HQ.out] at e1;rw [<-HVA.out,e1,if_neg hq0]
      rw [e2,HE.out];rfl
    ·have hall:=rd f.vars f.nodes (fun j hj=>HF.out j hj (by have:=HN.out;omega));have hrr:r=if qA f f.top then 0 else 10:=by rw [HRR.out,fJ,if_neg HH.out,if_neg HH2.out,if_pos hall]
     have hcall:=vX _ f wr (HV.out.kept hK) (by rw [<-HVA.out];exact h0) (by rw [<-HVA.out];exact h24) f.top (by rw [<-HTO.out];exact ht);unfold sx at hcall;rw [<-HTO.out,<-HVA.out] at hcall;have HCL:=af hcall;have HRF:=af hrr;clear hcall hrr hall;cases hok:qA f top with
     | true =>
      have HOK:=af hok;clear hok
      go_wp2_with (first
       | (with_reducible refine wpList_load_mid rfl 41 _ rfl w.heap.size 0 rfl _ _ HLD.out Tryz.underlying41 rfl (by kernel_rfl) ?_)
       | (go_at_call 72;refine HCL.out.mono ?_;rintro e w2 ⟨rfl,hk2⟩;rw [HOK.out]))
      go_ret;exact ⟨by rw [HRF.out,<-HTO.out,HOK.out];rfl,hK.trans hk2⟩
     | false =>
      have HOK:=af hok;clear hok
      go_wp2_with (first
       | (with_reducible refine wpList_load_mid rfl 41 _ rfl w.heap.size 0 rfl _ _ HLD.out Tryz.underlying41 rfl (by kernel_rfl) ?_)
       | (go_at_call 72;refine HCL.out.mono ?_;rintro e w2 ⟨rfl,hk2⟩;rw [HOK.out]))
      go_ret;exact ⟨by rw [HRF.out,<-HTO.out,HOK.out];rfl,hK.trans hk2⟩
end Go.Proofs.YtofibjflkebkpaaGreatDoor
