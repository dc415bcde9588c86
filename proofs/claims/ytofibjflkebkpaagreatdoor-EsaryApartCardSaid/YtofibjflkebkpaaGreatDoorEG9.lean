import Derived.WalkKit
import Derived.WalkSpells
import Derived.WalkLawsBesides
import Derived.Deep.QuietTactic
import Derived.BigQuiet
import Derived.Lib.Hide
import Derived.Shelf.Abstract
import Derived.Deep.RegionWith
import Derived.Laws.AppendOwnNone
import Derived.Lib.AppendZerosOnto
import Derived.Lib.SliceRun
import Derived.Lib.SlicesCompact
import Derived.Shelf.SlSortCmp.NoneTotal
import Derived.Maps.OwnOps
import Derived.Maps.OwnSet
import Derived.Maps.Views
import Derived.Deep.MidRow
import Derived.Deep.RegionHeld3
import Derived.Deep.AppendLies
import Derived.Deep.RegionLaw
import Derived.IntWalk
import Derived.StillTailTactics
import Derived.RegionTactic
import Derived.BigRegion
import Derived.ChangeAlike
import Derived.Sort.LotD2
import Derived.Sort.LotA
import Derived.Shelf.SlSortCmp.PdqK
import Derived.Deep.DeepCutAuto
import Derived.Lib.ItoaNum
import Derived.Deep.LoopGhost
import Derived.ProofKit
import Derived.OpenShut
import Derived.SizedLaws
import Derived.Lib.SmallJoins
import Derived.Deep.Slices
import Derived.Deep.Fields
import Derived.Deep.Strs
import Derived.Carry
import Derived.Lib.BitFns
import Derived.Deep.CutBlock
import Derived.Laws.IdiomStrings
import Derived.Test.YtofibjflkebkpaaGreatDoorEG7
import Derived.Test.YtofibjflkebkpaaGreatDoorEG8
import Derived.Test.YtofibjflkebkpaaGreatDoorEG6
import Derived.Test.YtofibjflkebkpaaGreatDoorEG2
set_option maxRecDepth 100000
set_option maxHeartbeats 16000000
namespace Go.Proofs.YtofibjflkebkpaaGreatDoor
open Go.RowKit
def pA (u:Value):Prop:=∀ x,u≠.int .u32 x
def rQ (w:World) (g:Nat):Prop:=∀ cur e fr,w.heap[g]?=some (.cells cur e fr)->∀ u∈cur.toList,pA u
theorem vq {w:World} {g:Nat} {cur:Array Value} {e:TypeId} {fr:Nat × Nat} (h:w.heap[g]?=some (.cells cur e fr)) (hc:∀ u∈cur.toList,pA u):rQ w g:=by
 intro c e2 f2 h2;rw [h] at h2;cases h2;exact hc
theorem rQ.same {w w':World} {g:Nat} (h:rQ w g) (hk:w'.heap[g]?=w.heap[g]?):rQ w' g:=fun cur e fr h2=>h cur e fr (by rw [<-hk];exact h2)
theorem rQ.cell {w:World} {g i:Nat} {u:Value} (h:rQ w g) (hc:w.cell? ⟨g,i,none⟩=some u):pA u:=by
 simp only [World.cell?] at hc;cases hg:w.heap[g]? with
 | none=>rw [hg] at hc;simp at hc
 | some o =>
  cases o with
  | cells cur e fr =>
   rw [hg] at hc;simp only at hc
   exact h cur e fr hg u (by
    have:=Array.getElem?_eq_some_iff.1 hc;obtain ⟨h1,h2⟩:=this;rw [<-h2];exact Array.mem_toList_iff.2 (Array.getElem_mem h1))
  | _=>rw [hg] at hc;simp at hc
theorem jO {z:Array Value} {n:Nat} {u:Value} (h:u∈(Builtin.zeroCells z n).toList):u∈z.toList:=by
 unfold Builtin.zeroCells at h;simp at h;obtain ⟨k,hk,e⟩:=h
 have hz:0<z.size:=by
  rcases Nat.eq_zero_or_pos z.size with h0 | h0
  ·rw [h0] at hk;omega
  ·exact h0
 have hlt:k % z.size<z.size:=Nat.mod_lt _ hz;rw [<-e,getElem!_pos z _ hlt];exact Array.mem_toList_iff.2 (Array.getElem_mem hlt)
theorem pb {P:Program} (w:World) (base:Nat) (t ty e:TypeId) (i:TypeInfo) (z:Value) (size bytes:Nat) (ht:P.underlying t=some (.slice e)) (hi:P.info? e=some i) (hz:i.zero=some z)
  (hsize:i.size=size) (hby:i.bytes=bytes) (hzs:z.cells.size=size) (hsz:0<size)
  (v:Value) (n:Nat) (xs:List Value) (hown:w.ownsRow base e size v n xs)
  (a:Addr) (m c:Nat) (news:List Value) (hl:news.length=m*size) (hnews:∀ j u,news[j]?=some u->w.cell? (a.add j)=some u) (h1:∀ u∈news,u.oneCell'=true)
  (h63:n+m<=maxLen) (hbytes:(n+m)*bytes<=140737488355328) (hbase:base<=w.heap.size)
  (hno:∀ g,v.ownBlock=some g->rQ w g) (hnw:∀ u∈news,pA u) (hzw:∀ u∈z.cells.toList,pA u) :
  ∃ v' w',(Builtin.append_ #[t,t] ty #[v,.slice (some a) m c]).run P w=.ok v' w'/\w'.ownsRow base e size v' (n+m) (xs++news)/\w.grownBy w' v.ownBlock/\∀ g,v'.ownBlock=some g->rQ w' g:=by
 obtain ⟨v',w',hr,h2,h3,h4⟩:=run_append_own (P:=P) w base t ty e i z size bytes ht hi hz hsize hby hzs hsz v n xs hown a m c news hl hnews h1 h63 hbytes hbase;refine ⟨v',w',hr,h2,h3,?_⟩;subst hsize;subst hby
 have hsmall:n+m<=9223372036854775807:=by simp only [maxLen] at h63;omega
 intro k hk;rcases hown.2 with ⟨rfl,rfl⟩ | ⟨g,cap,cur,rfl,hbg,hg,hnc,hcm,hcs,htake⟩
 ·have hx:xs=[]:=List.eq_nil_of_length_eq_zero (by simpa using hown.1);subst hx;by_cases hm:m=0
  ·subst hm;have:=h4.2 ⟨rfl,rfl⟩;subst this;simp [Value.ownBlock] at hk
  ·have hr2:=run_append_nil (P:=P) w t ty e i z ht hi hz a m c news hl hnews (by omega) (by omega) (by have hb:=hbytes;simp only [Nat.zero_add] at hb;omega);have e1:=hr.symm.trans hr2;injection e1 with e2 e3
   subst e2 e3;simp only [Value.ownBlock,Option.some.injEq] at hk;subst hk;refine vq (cur:=news.toArray++Builtin.zeroCells z.cells (grownCap w m 0 e - m)) (e:=e) (fr:=(0,0)) (by have:=heap_alloc_new w.drew (.cells (news.toArray++Builtin.zeroCells z.cells (grownCap w m 0 e - m)) e);exact this) fun u hu=>?_
   rw [Array.toList_append] at hu;rcases List.mem_append.1 hu with hu | hu
   ·exact hnw u (by simpa using hu)
   ·exact hzw u (jO hu)
 ·have hno2:=hno g (by simp [Value.ownBlock]) cur e (0,0) hg;by_cases hroom:n+m<=cap
  ·have hfit:n*i.size+news.length<=cur.size:=by rw [hl,hcs,<-Nat.add_mul];exact Nat.mul_le_mul_right _ hroom
   have hr2:=run_append_room (P:=P) w t ty e i ht hi g n cap cur hg a m c news hl hnews h1 hroom hfit;have e1:=hr.symm.trans hr2;injection e1 with e2 e3
   subst e2 e3;simp only [Value.ownBlock,Option.some.injEq] at hk;subst hk;refine vq (setRow_heap w g cur _ e _ hg) fun u hu=>?_
   rcases List.mem_append.1 hu with hu | hu
   ·rcases List.mem_append.1 hu with hu | hu
    ·exact hno2 u (List.mem_of_mem_take hu)
    ·exact hnw u hu
   ·exact hno2 u (List.mem_of_mem_drop hu)
  ·have holds:∀ j u,xs[j]?=some u->w.cell? ((⟨g,0,none⟩:Addr).add j)=some u:=hown.cells (g:=g) rfl;have hr2:=run_append_grow (P:=P) w t ty e i z ht hi hz ⟨g,0,none⟩ n cap xs hown.1 holds a m c news hl hnews (by omega) (by omega) (growslice_fits (by omega) hbytes);have e1:=hr.symm.trans hr2;injection e1 with e2 e3
   subst e2 e3;simp only [Value.ownBlock,Option.some.injEq] at hk;subst hk;refine vq (heap_alloc_new w.drew _) fun u hu=>?_
   rw [Array.toList_append,Array.toList_append] at hu;rcases List.mem_append.1 hu with hu | hu
   ·rcases List.mem_append.1 hu with hu | hu
    ·have hu:u∈xs:=by simpa using hu
     rw [<-htake] at hu;exact hno2 u (List.mem_of_mem_take hu)
    ·exact hnw u (by simpa using hu)
   ·exact hzw u (jO hu)
theorem jR {P:Program} {o:Oper} {a:Act} {K:Act->World->Prop} {Q:Exit->Act->World->Prop} (w:World) (s x:Operand) (t:TypeId)
  (ho:o.op=.call { callee:=.builtin .append,args:=#[s,x],argTypes:=#[t,t] })
  (base:Nat) (e:TypeId) (i:TypeInfo) (z:Value) (size bytes:Nat) (ht:P.underlying t=some (.slice e)) (hi:P.info? e=some i) (hz:i.zero=some z)
  (hsize:i.size=size) (hby:i.bytes=bytes) (hzs:z.cells.size=size) (hsz:0<size)
  (v:Value) (n:Nat) (xs:List Value) (hs:a.eval s=v) (hown:w.ownsRow base e size v n xs)
  (ad:Addr) (m c:Nat) (news:List Value) (hx:a.eval x=.slice (some ad) m c) (hl:news.length=m*size) (hnews:∀ j u,news[j]?=some u->w.cell? (ad.add j)=some u) (h1:∀ u∈news,u.oneCell'=true)
  (h63:n+m<=maxLen) (hbytes:(n+m)*bytes<=140737488355328) (hbase:base<=w.heap.size)
  (hno:∀ g,v.ownBlock=some g->rQ w g) (hnw:∀ u∈news,pA u) (hzw:∀ u∈z.cells.toList,pA u)
  (h:∀ v' w',w'.ownsRow base e size v' (n+m) (xs++news)->w.grownBy w' v.ownBlock->(∀ g,v'.ownBlock=some g->rQ w' g)->K (a.put o.dst v') w'):o.wp P a w K Q:=by
 obtain ⟨v',w',hr,h2,h3,h4⟩:=pb (P:=P) w base t o.type e i z size bytes ht hi hz hsize hby hzs hsz v n xs hown ad m c news hl hnews h1 h63 hbytes hbase hno hnw hzw;unfold Oper.wp execOp;simp only [ho,resolve,invoke,builtin,Sem.run_bind,Sem.run_pure,Result.andThen_ok,List.map_toArray,List.map_cons,List.map_nil,hs,hx,hr];exact h v' w' h2 h3 h4
theorem WdsAt.only {w w':World} {g:Option Nat} {v:Value} {xs:List Nat} (h:WdsAt w v xs) (hr:∀ k,g=some k->rQ w k) (ho:∀ k,k<w.heap.size->some k≠g->w'.heap[k]?=w.heap[k]?):WdsAt w' v xs:=by
 obtain ⟨a,c,h1,h2,h3,h4,h5⟩:=h;refine ⟨a,c,h1,h2,h3,h4,fun i hi=>?_⟩;obtain ⟨b,o,h6,h7⟩:=h5 i hi;refine ⟨b,o,h6,?_⟩;have hne:some b≠g:=fun e=>(hr b e.symm).cell h7 _ rfl
 have hlt:b<w.heap.size:=by
  rcases Nat.lt_or_ge b w.heap.size with h8 | h8
  ·exact h8
  ·simp [World.cell?,Array.getElem?_eq_none h8] at h7
 have:=ho b hlt hne;simp only [World.cell?,this] at h7⊢;exact h7
abbrev ul:=Rw × Value × Value
def nG (x:ul):List Value:=[.bool x.1.neg,x.2.1,x.2.2]
def kv (w:World) (x:ul):Prop:=WdsAt w x.2.1 x.1.num/\WdsAt w x.2.2 x.1.den
theorem kv.kept {w w':World} {x:ul} (h:kv w x) (hk:af w w'):kv w' x:=⟨h.1.kept hk,h.2.kept hk⟩
theorem kv.only {w w':World} {g:Option Nat} {x:ul} (h:kv w x) (hr:∀ k,g=some k->rQ w k) (ho:∀ k,k<w.heap.size->some k≠g->w'.heap[k]?=w.heap[k]?):kv w' x:=⟨h.1.only hr ho,h.2.only hr ho⟩
def bU (w:World) (B:Nat) (v:Value) (rs:List Rw):Prop :=
 ∃ L:List ul,L.map Prod.fst=rs/\w.ownsRow B 29 3 v L.length (L.flatMap nG)/\L.length<=1099511627776/\(∀ g,v.ownBlock=some g->rQ w g)/\∀ x∈L,kv w x
theorem Bi {w w':World} {B n:Nat} {e:TypeId} {s:Nat} {v:Value} {xs:List Value} (h:w.ownsRow B e s v n xs) (hn:∀ g,v.ownBlock=some g->rQ w g) (hk:af w w'):∀ g,v.ownBlock=some g->rQ w' g :=
 fun g hg=>(hn g hg).same (hk.block g (h.lt g hg).2)
theorem bU.kept {w w':World} {B:Nat} {v:Value} {rs:List Rw} (h:bU w B v rs) (hk:af w w'):bU w' B v rs:=by
 obtain ⟨L,h1,h2,h3,h4,h5⟩:=h;exact ⟨L,h1,eF h2 hk,h3,Bi h2 h4 hk,fun x hx=>(h5 x hx).kept hk⟩
theorem bU.nil (w:World) (B:Nat):bU w B (.slice none 0 0) []:=⟨[],rfl,World.ownsRow_nil _ _ _ _,by simp,fun g hg=>by simp [Value.ownBlock] at hg,fun x hx=>by cases hx⟩
theorem BZ (L:List ul):∀ i (h:i<L.length) j,j<3->(L.flatMap nG)[i*3+j]?=(nG L[i])[j]?:=by
 induction L with
 | nil=>intro i h;simp at h
 | cons c L ih =>
  intro i h j hj;rw [List.flatMap_cons];cases i with
  | zero=>rw [List.getElem?_append_left (by simp [nG];omega)];simp
  | succ i =>
   rw [List.getElem?_append_right (by simp [nG];omega),show (nG c).length=3 from rfl,show (i+1)*3+j - 3=i*3+j by omega];exact ih i (by simpa using h) j hj
theorem WdsAt.cell1 {w:World} {v:Value} {xs:List Nat} (h:WdsAt w v xs):v.oneCell'=true/\pA v:=by
 obtain ⟨a,c,rfl⟩:=h.shape;exact ⟨rfl,fun x h=>by cases h⟩
theorem B_ {w:World} {L:List ul} (h:∀ x∈L,kv w x):∀ u∈L.flatMap nG,u.oneCell'=true/\pA u:=fun u hu=>by
 obtain ⟨c,hc,h2⟩:=List.mem_flatMap.1 hu;simp [nG] at h2;rcases h2 with rfl | rfl | rfl
 ·exact ⟨rfl,fun x h=>by cases h⟩
 ·exact (h c hc).1.cell1
 ·exact (h c hc).2.cell1
theorem bU.at {w:World} {B:Nat} {v:Value} {rs:List Rw} (h:bU w B v rs):RatsAt w v rs:=by
 obtain ⟨L,rfl,⟨h1,h2⟩,h3,_,h5⟩:=h;have hl:(L.map Prod.fst).length=L.length:=List.length_map ..;rcases h2 with ⟨rfl,h6⟩ | ⟨g,cap,cur,rfl,h6,h7,h8,h9,h10,h11⟩
 ·have:L=[]:=List.eq_nil_of_length_eq_zero h6
  subst this;exact ⟨none,0,rfl,⟨by simp,fun _=>rfl⟩,by simp,fun i h=>by simp at h⟩
 ·refine ⟨some ⟨g,0,none⟩,cap,by rw [hl],⟨by rw [hl];exact h8,fun h=>by cases h⟩,by rw [hl];omega,fun i hi=>?_⟩;have hi':i<L.length:=by rw [hl] at hi;exact hi
  refine ⟨g,0,L[i].2.1,L[i].2.2,rfl,fun j u hj=>?_,by rw [List.getElem_map];exact (h5 _ (List.getElem_mem hi')).1,by rw [List.getElem_map];exact (h5 _ (List.getElem_mem hi')).2⟩;rw [List.getElem_map] at hj
  have hj3:j<3:=by
   have:=(List.getElem?_eq_some_iff.1 hj).1;simpa using this
  have e1:(cur.toList.take (L.length*3))[i*3+j]?=(L.flatMap nG)[i*3+j]?:=by rw [h11]
  rw [List.getElem?_take_of_lt (by omega),BZ L i hi' j hj3] at e1;have e2:(nG L[i])[j]?=some u:=hj;rw [e2] at e1;simp only [World.cell?,h7,Nat.zero_add];simpa using e1
theorem sC:(Tryz.prog.info? 29).map (fun i=>(i.zero,i.size,i.bytes))=some (some (.agg #[.bool false,.slice none 0 0,.slice none 0 0]),3,56):=by kernel_rfl
theorem uj:∀ u∈(Value.agg #[.bool false,.slice none 0 0,.slice none 0 0]).cells.toList,pA u:=fun u hu=>by
 have:u=.bool false\/u=.slice none 0 0\/u=.slice none 0 0:=by simpa [Value.cells] using hu
 rcases this with rfl | rfl | rfl <;> exact fun x h=>by cases h
theorem bU.more {w w':World} {B:Nat} {v v':Value} {rs:List Rw} {L:List ul} (h1:L.map Prod.fst=rs) (h3:L.length<1099511627776) (_h2:w.ownsRow B 29 3 v L.length (L.flatMap nG)) (h4:∀ g,v.ownBlock=some g->rQ w g) (h5:∀ x∈L,kv w x) (x:ul) (hx:kv w x)
  (h6:w'.ownsRow B 29 3 v' (L.length+1) (L.flatMap nG++nG x)) (h7:w.grownBy w' v.ownBlock) (h8:∀ g,v'.ownBlock=some g->rQ w' g):bU w' B v' (rs++[x.1]):=by
 refine ⟨L++[x],by rw [List.map_append,h1];rfl,?_,by simp;omega,h8,fun y hy=>?_⟩
 ·rw [List.length_append,List.flatMap_append];simpa using h6
 ·rcases List.mem_append.1 hy with hy | hy
  ·exact (h5 y hy).only h4 h7.block
  ·rw [List.mem_singleton] at hy;rw [hy];exact hx.only h4 h7.block
theorem FD {ops:Array Oper} {o:Oper} {a:Act} {K:Act->World->Prop} {Q:Exit->Act->World->Prop} {E:Prop} {w:World} (hgd:o.guard=none) (s x:Operand)
  (ho:o.op=.call { callee:=.builtin .append,args:=#[s,x],argTypes:=#[23,23] }) (B:Nat) (v:Value) (rs:List Rw) (hs:a.eval s=v) (hown:bU w B v rs)
  (g:Nat) (r:Rw) (u1 u2:Value) (hx:a.eval x=.slice (some ⟨g,0,none⟩) 1 1) (hu:w.rangeAt g 0 [.bool r.neg,u1,u2]) (hw1:WdsAt w u1 r.num) (hw2:WdsAt w u2 r.den) (hl:rs.length<1099511627776) (hB:B<=w.heap.size)
  (h:∀ v' w',bU w' B v' (rs++[r])->Below B w w'->K (a.put o.dst v') w'):if Region.wanted o (yielded ops a.tmps)=true then Oper.wp Tryz.prog o a w K Q else E:=by
 have hw:Region.wanted o (yielded ops a.tmps)=true:=by simp [Region.wanted,hgd]
 rw [if_pos hw];obtain ⟨i0,hi0,hz0,hz1,hz2⟩:=info_parts sC;obtain ⟨L,h1,h2,h3,h4,h5⟩:=hown;have hll:L.length=rs.length:=by rw [<-h1,List.length_map]
 have hok:kv w (r,u1,u2):=⟨hw1,hw2⟩;have hone:=B_ (L:=[(r,u1,u2)]) (w:=w) fun y hy=>by rw [List.mem_singleton] at hy;rw [hy];exact hok
 have hfl:([(r,u1,u2)]:List ul).flatMap nG=[.bool r.neg,u1,u2]:=rfl;rw [hfl] at hone;refine jR w s x 23 ho B 29 i0 _ 3 56 Tryz.underlying23 hi0 hz0 hz1 hz2 rfl (by decide) v L.length _ hs h2 ⟨g,0,none⟩ 1 1 [.bool r.neg,u1,u2] hx (by simp) ?_ (fun u hu=>(hone u hu).1) (by simp [maxLen];omega) (by omega) hB h4 (fun u hu=>(hone u hu).2) uj ?_
 ·intro j u hj;have:=hu j u hj;rw [show ({ block:=g,off:=0 }:Addr).add j=⟨g,0+j,none⟩ by unfold Addr.add;split <;> simp_all];exact this
 ·intro v' w' h6 h7 h8;exact h v' w' (bU.more h1 (by omega) h2 h4 h5 (r,u1,u2) hok h6 h7 h8) (bf h7 h2 hB)
theorem CO {ops:Array Oper} {rest:List Oper} {o:Oper} {a:Act} {Q:Exit->Act->World->Prop} {w:World} (hgd:o.guard=none) (s x:Operand)
  (ho:o.op=.call { callee:=.builtin .append,args:=#[s,x],argTypes:=#[23,23] }) (B:Nat) (v:Value) (rs:List Rw) (hs:a.eval s=v) (hown:bU w B v rs)
  (g:Nat) (r:Rw) (u1 u2:Value) (hx:a.eval x=.slice (some ⟨g,0,none⟩) 1 1) (hu:w.rangeAt g 0 [.bool r.neg,u1,u2]) (hw1:WdsAt w u1 r.num) (hw2:WdsAt w u2 r.den) (hl:rs.length<1099511627776) (hB:B<=w.heap.size)
  (h:∀ v' w',bU w' B v' (rs++[r])->Below B w w'->wpList Tryz.prog ops Q rest (a.put o.dst v') w'):wpList Tryz.prog ops Q (o :: rest) a w:=by
 obtain ⟨i0,hi0,hz0,hz1,hz2⟩:=info_parts sC;obtain ⟨L,h1,h2,h3,h4,h5⟩:=hown;have hll:L.length=rs.length:=by rw [<-h1,List.length_map]
 have hok:kv w (r,u1,u2):=⟨hw1,hw2⟩;have hone:=B_ (L:=[(r,u1,u2)]) (w:=w) fun y hy=>by rw [List.mem_singleton] at hy;rw [hy];exact hok
 have hfl:([(r,u1,u2)]:List ul).flatMap nG=[.bool r.neg,u1,u2]:=rfl;rw [hfl] at hone;refine wpList_plain hgd fun _ hK=>jR w s x 23 ho B 29 i0 _ 3 56 Tryz.underlying23 hi0 hz0 hz1 hz2 rfl (by decide) v L.length _ hs h2 ⟨g,0,none⟩ 1 1 [.bool r.neg,u1,u2] hx (by simp) ?_ (fun u hu=>(hone u hu).1) (by simp [maxLen];omega) (by omega) hB h4 (fun u hu=>(hone u hu).2) uj ?_
 ·intro j u hj;have:=hu j u hj;rw [show ({ block:=g,off:=0 }:Addr).add j=⟨g,0+j,none⟩ by unfold Addr.add;split <;> simp_all];exact this
 ·intro v' w' h6 h7 h8;exact hK _ _ (h v' w' (bU.more h1 (by omega) h2 h4 h5 (r,u1,u2) hok h6 h7 h8) (bf h7 h2 hB))
def EB (xs:List Int) (ps:List Rw) (k:Int):Nat :=
 if cU xs≠0 then cU xs else if 12<xs.length then 4 else if (aR xs).any (fun s=>decide ((ps.length:Int)<=nz s))=true then 11 else if bI ps=true then 3 else if k<0\/12<k then 3 else 0
theorem xk (s:Nat) (ps:List Rw):∀ n,pQ (eP ps) n s=dW s ps n:=by
 intro n;induction n with
 | zero=>rfl
 | succ n ih =>
  rw [g_,<-ih];show (pQ (eP ps) n s*(if s.testBit n=true then eP ps n else 1))*(if (0:Nat).testBit n=true then 1 - eP ps n else 1)=_;have e:(if (0:Nat).testBit n=true then 1 - eP ps n else (1:Rat))=1:=if_neg (by simp);rw [e,Rat.mul_one];split
  ·rfl
  ·exact Rat.mul_one _
def FW (ps:List Rw) (l:List Nat) (k m:Nat):Rat:=FE (eP ps) ps.length l k m
def Fv (ps:List Rw) (l:List Nat) (k:Nat):Rat:=yg (eP ps) ps.length l k 0
def Gx (ps:List Rw) (l:List Nat) (k c:Nat):Rat:=yg (eP ps) ps.length l k c
def Ek (ps:List Rw) (l:List Nat) (k:Nat):Rat:=zU (eP ps) ps.length l k
theorem zi {r s:Rw} (hr:r.Ok) (hs:s.Ok) {k l:Nat} (h1:r.Short k) (h2:s.Short l) (hk:1<=k) (hl:1<=l):(ah (aj r - aj s)).Short (k+l+1):=by
 have h:=fi hr (bD (- aj s)) h1 (eh hs h2 hl) hk hl;rw [al,<-Rat.sub_eq_add_neg] at h;exact h
def Gc (ps:List Rw) (l:List Nat) (k:Nat):Rat:=Ab (eP ps) ps.length l k
def Ga (ps:List Rw) (l:List Nat) (k:Nat):Rat:=Aa (eP ps) ps.length l k
def ArrAt (w:World) (g:Nat) (e:TypeId) (rs:List Rw):Prop :=
 ∃ L:List ul,L.map Prod.fst=rs/\ai w g e (L.flatMap nG)/\bo w g (L.flatMap nG)/\∀ x∈L,kv w x
theorem ArrAt.kept {w w':World} {g:Nat} {t:TypeId} {rs:List Rw} (h:ArrAt w g t rs) (hk:af w w'):ArrAt w' g t rs:=by
 obtain ⟨L,h1,h2,h3,h4⟩:=h;exact ⟨L,h1,h2.kept hk,h3.kept hk,fun x hx=>(h4 x hx).kept hk⟩
theorem pe {w:World} {L:List ul} (h:∀ x∈L,kv w x):∀ k x,Value.int k x ∉ L.flatMap nG:=by
 intro k x hx;obtain ⟨c,hc,h2⟩:=List.mem_flatMap.1 hx;obtain ⟨a1,c1,e1⟩:=(h c hc).1.shape;obtain ⟨a2,c2,e2⟩:=(h c hc).2.shape;simp [nG,e1,e2] at h2
theorem Ca (L:List ul) (y:ul):∀ i,i<L.length->(L.set i y).flatMap nG=(((L.flatMap nG).set (i*3) (.bool y.1.neg)).set (i*3+1) y.2.1).set (i*3+2) y.2.2:=by
 induction L with
 | nil=>intro i h;simp at h
 | cons c L ih =>
  intro i h;cases i with
  | zero=>simp [nG]
  | succ i =>
   rw [List.set_cons_succ,List.flatMap_cons,List.flatMap_cons,ih i (by simpa using h)]
   have e:∀ (X Y:List Value) (j:Nat) (u:Value),X.length=3->(X++Y).set ((i+1)*3+j) u=X++Y.set (i*3+j) u:=fun X Y j u hX=>by
    rw [List.set_append_right _ _ (by omega),hX];congr 2;omega
   have e0:=fun (X Y:List Value) (u:Value) (hX:X.length=3)=>e X Y 0 u hX
   simp only [Nat.add_zero] at e0;rw [e0 _ _ _ rfl,e _ _ 1 _ rfl,e _ _ 2 _ rfl]
theorem ArrAt.store {w:World} {g:Nat} {t:TypeId} {rs:List Rw} (h:ArrAt w g t rs) (i:Nat) (hi:i<rs.length) {r:Rw} {u1 u2:Value} (h1:WdsAt w u1 r.num) (h2:WdsAt w u2 r.den) :
  ArrAt (((w.setCell ⟨g,i*3,none⟩ (.bool r.neg)).setCell ⟨g,i*3+1,none⟩ u1).setCell ⟨g,i*3+2,none⟩ u2) g t (rs.set i r):=by
 obtain ⟨L,e,h3,h4,h5⟩:=h;have hl:i<L.length:=by rw [<-e,List.length_map] at hi;exact hi
 have hO:=(((az.refl g w).store (i*3) (.bool r.neg)).store (i*3+1) u1).store (i*3+2) u2;have hn:=pe h5;refine ⟨L.set i (r,u1,u2),by rw [List.map_set,e],?_,?_,fun x hx=>?_⟩
 ·rw [Ca L (r,u1,u2) i hl];exact ((h3.store _ _).store _ _).store _ _
 ·rw [Ca L (r,u1,u2) i hl];exact ((h4.store _ _).store _ _).store _ _
 ·rcases List.mem_or_eq_of_mem_set hx with hx | rfl
  ·exact ⟨(h5 x hx).1.apart h4 hn hO,(h5 x hx).2.apart h4 hn hO⟩
  ·exact ⟨h1.apart h4 hn hO,h2.apart h4 hn hO⟩
theorem ArrAt.at {w:World} {g:Nat} {t:TypeId} {rs:List Rw} (h:ArrAt w g t rs) (i:Nat) (hi:i<rs.length):∃ a1 c1 a2 c2,(w.cell? ⟨g,i*3,none⟩=some (.bool (rs.getD i default).neg)/\w.cell? ⟨g,i*3+1,none⟩=some (.slice a1 (rs.getD i default).num.length c1)/\w.cell? ⟨g,i*3+2,none⟩=some (.slice a2 (rs.getD i default).den.length c2))/\(∀ j,w.frozen? ⟨g,j,none⟩=false)/\g<w.heap.size/\WdsAt w (.slice a1 (rs.getD i default).num.length c1) (rs.getD i default).num/\WdsAt w (.slice a2 (rs.getD i default).den.length c2) (rs.getD i default).den:=by
 obtain ⟨L,e,h3,h4,h5⟩:=h;have hl:i<L.length:=by rw [<-e,List.length_map] at hi;exact hi
 have ed:rs.getD i default=L[i].1:=by rw [<-e];simp [List.getD_eq_getElem?_getD,hl]
 have hok:=h5 _ (List.getElem_mem hl);obtain ⟨a1,c1,e1⟩:=hok.1.shape;obtain ⟨a2,c2,e2⟩:=hok.2.shape
 have hcell:∀ j,j<3->∀ u,(nG L[i])[j]?=some u->w.cell? ⟨g,i*3+j,none⟩=some u:=fun j hj u hu=>by
  have h6:=BZ L i hl j hj;rw [hu] at h6;obtain ⟨h7,h8⟩:=List.getElem?_eq_some_iff.1 h6;rw [h3.cell h7,h8]
 rw [ed];refine ⟨a1,c1,a2,c2,⟨?_,?_,?_⟩,fun j=>h3.free j,h3.lt,by rw [<-e1];exact hok.1,by rw [<-e2];exact hok.2⟩
 ·exact hcell 0 (by decide) _ rfl
 ·rw [<-e1];exact hcell 1 (by decide) _ rfl
 ·rw [<-e2];exact hcell 2 (by decide) _ rfl
def SpanV (w:World) (v:Value) (lo hi:Rw):Prop :=
 ∃ u1 u2 u3 u4,v=.agg #[.bool lo.neg,u1,u2,.bool hi.neg,u3,u4]/\WdsAt w u1 lo.num/\WdsAt w u2 lo.den/\WdsAt w u3 hi.num/\WdsAt w u4 hi.den
theorem SpanV.kept {w w':World} {v:Value} {lo hi:Rw} (h:SpanV w v lo hi) (hk:af w w'):SpanV w' v lo hi:=by
 obtain ⟨u1,u2,u3,u4,h0,h1,h2,h3,h4⟩:=h;exact ⟨u1,u2,u3,u4,h0,h1.kept hk,h2.kept hk,h3.kept hk,h4.kept hk⟩
theorem SpanV.shape {w:World} {v:Value} {lo hi:Rw} (h:SpanV w v lo hi):∃ a1 c1 a2 c2 a3 c3 a4 c4,v=.agg #[.bool lo.neg,.slice a1 lo.num.length c1,.slice a2 lo.den.length c2,.bool hi.neg,.slice a3 hi.num.length c3,.slice a4 hi.den.length c4] /\
  WdsAt w (.slice a1 lo.num.length c1) lo.num/\WdsAt w (.slice a2 lo.den.length c2) lo.den/\WdsAt w (.slice a3 hi.num.length c3) hi.num/\WdsAt w (.slice a4 hi.den.length c4) hi.den:=by
 obtain ⟨u1,u2,u3,u4,h0,h1,h2,h3,h4⟩:=h;obtain ⟨a1,c1,rfl⟩:=h1.shape;obtain ⟨a2,c2,rfl⟩:=h2.shape;obtain ⟨a3,c3,rfl⟩:=h3.shape;obtain ⟨a4,c4,rfl⟩:=h4.shape;exact ⟨a1,c1,a2,c2,a3,c3,a4,c4,h0,h1,h2,h3,h4⟩
def SpnAt (w:World) (g:Nat) (lo hi:Rw):Prop:=ArrAt w g 44 [lo,hi]
theorem SpnAt.kept {w w':World} {g:Nat} {lo hi:Rw} (h:SpnAt w g lo hi) (hk:af w w'):SpnAt w' g lo hi:=ArrAt.kept h hk
theorem SpnAt.made {w:World} {lo hi:Rw} {u1 u2 u3 u4:Value} (h1:WdsAt w u1 lo.num) (h2:WdsAt w u2 lo.den) (h3:WdsAt w u3 hi.num) (h4:WdsAt w u4 hi.den) :
  SpnAt (w.alloc (.cells #[.bool lo.neg,u1,u2,.bool hi.neg,u3,u4] 44)) w.heap.size lo hi:=by
 have hk:af w (w.alloc (.cells #[.bool lo.neg,u1,u2,.bool hi.neg,u3,u4] 44)):=(af.refl _).alloc _;refine ⟨[(lo,u1,u2),(hi,u3,u4)],rfl,ai.made w #[.bool lo.neg,u1,u2,.bool hi.neg,u3,u4] 44,bo.made w #[.bool lo.neg,u1,u2,.bool hi.neg,u3,u4] 44,fun x hx=>?_⟩;rcases List.mem_cons.1 hx with rfl | hx
 ·exact ⟨h1.kept hk,h2.kept hk⟩
 ·rw [List.mem_singleton] at hx;subst hx;exact ⟨h3.kept hk,h4.kept hk⟩
theorem SpnAt.at {w:World} {g:Nat} {lo hi:Rw} (h:SpnAt w g lo hi):∃ a1 c1 a2 c2 a3 c3 a4 c4,
  (w.cell? ⟨g,0,none⟩=some (.bool lo.neg)/\w.cell? ⟨g,1,none⟩=some (.slice a1 lo.num.length c1)/\w.cell? ⟨g,2,none⟩=some (.slice a2 lo.den.length c2) /\
   w.cell? ⟨g,3,none⟩=some (.bool hi.neg)/\w.cell? ⟨g,4,none⟩=some (.slice a3 hi.num.length c3)/\w.cell? ⟨g,5,none⟩=some (.slice a4 hi.den.length c4)) /\
  (∀ j,w.frozen? ⟨g,j,none⟩=false)/\g<w.heap.size/\WdsAt w (.slice a1 lo.num.length c1) lo.num/\WdsAt w (.slice a2 lo.den.length c2) lo.den/\WdsAt w (.slice a3 hi.num.length c3) hi.num/\WdsAt w (.slice a4 hi.den.length c4) hi.den:=by
 obtain ⟨a1,c1,a2,c2,⟨x0,x1,x2⟩,hf,hl,y1,y2⟩:=ArrAt.at h 0 (by simp);obtain ⟨a3,c3,a4,c4,⟨x3,x4,x5⟩,_,_,y3,y4⟩:=ArrAt.at h 1 (by simp);exact ⟨a1,c1,a2,c2,a3,c3,a4,c4,⟨x0,x1,x2,x3,x4,x5⟩,hf,hl,y1,y2,y3,y4⟩
theorem SpnAt.lo {w:World} {g:Nat} {lo hi r:Rw} {u1 u2:Value} (h:SpnAt w g lo hi) (h1:WdsAt w u1 r.num) (h2:WdsAt w u2 r.den) :
  SpnAt (((w.setCell ⟨g,0,none⟩ (.bool r.neg)).setCell ⟨g,1,none⟩ u1).setCell ⟨g,2,none⟩ u2) g r hi:=ArrAt.store h 0 (by simp) h1 h2
theorem SpnAt.hi {w:World} {g:Nat} {lo hi r:Rw} {u1 u2:Value} (h:SpnAt w g lo hi) (h1:WdsAt w u1 r.num) (h2:WdsAt w u2 r.den) :
  SpnAt (((w.setCell ⟨g,3,none⟩ (.bool r.neg)).setCell ⟨g,4,none⟩ u1).setCell ⟨g,5,none⟩ u2) g lo r:=ArrAt.store h 1 (by simp) h1 h2
theorem tS {w:World} {g:Nat} {lo hi lo0 hi0:Rw} {u1 u2 u3 u4:Value} (h:SpnAt w g lo0 hi0) (h1:WdsAt w u1 lo.num) (h2:WdsAt w u2 lo.den) (h3:WdsAt w u3 hi.num) (h4:WdsAt w u4 hi.den) :
  ∃ w',w'=(((((w.setCell ⟨g,0,none⟩ (.bool lo.neg)).setCell ⟨g,1,none⟩ u1).setCell ⟨g,2,none⟩ u2).setCell ⟨g,3,none⟩ (.bool hi.neg)).setCell ⟨g,4,none⟩ u3).setCell ⟨g,5,none⟩ u4 /\
  (w'.cell? ⟨g,0,none⟩=some (.bool lo.neg)/\w'.cell? ⟨g,1,none⟩=some u1/\w'.cell? ⟨g,2,none⟩=some u2/\w'.cell? ⟨g,3,none⟩=some (.bool hi.neg)/\w'.cell? ⟨g,4,none⟩=some u3/\w'.cell? ⟨g,5,none⟩=some u4) /\
  SpanV w' (.agg #[.bool lo.neg,u1,u2,.bool hi.neg,u3,u4]) lo hi:=by
 refine ⟨_,rfl,?_,?_⟩
 ·obtain ⟨L,e,hr,_,_⟩:=h
  match L,e with
  | [x,y],_ =>
   have hr2:=(((((hr.store 0 (.bool lo.neg)).store 1 u1).store 2 u2).store 3 (.bool hi.neg)).store 4 u3).store 5 u4;have c:=fun i (hi:i<6)=>hr2.cell (i:=i) (by simpa [nG] using hi)
   exact ⟨c 0 (by omega),c 1 (by omega),c 2 (by omega),c 3 (by omega),c 4 (by omega),c 5 (by omega)⟩
 ·obtain ⟨L,e,_,hf,hk⟩:=h;have hO:=((((((az.refl g w).store 0 (.bool lo.neg)).store 1 u1).store 2 u2).store 3 (.bool hi.neg)).store 4 u3).store 5 u4;have hn:=pe hk;exact ⟨_,_,_,_,rfl,h1.apart hf hn hO,h2.apart hf hn hO,h3.apart hf hn hO,h4.apart hf hn hO⟩
theorem ArrAt.fix {w:World} {g:Nat} {t:TypeId} {rs:List Rw} (h:ArrAt w g t rs):∃ row,bo w g row/\∀ k x,Value.int k x ∉ row:=by
 obtain ⟨L,_,_,hf,hk⟩:=h;exact ⟨_,hf,pe hk⟩
theorem SpnAt.zero (w:World):SpnAt (w.alloc (.cells #[.bool false,.slice none 0 0,.slice none 0 0,.bool false,.slice none 0 0,.slice none 0 0] 44)) w.heap.size ⟨false,[],[]⟩ ⟨false,[],[]⟩ :=
 SpnAt.made (lo:=⟨false,[],[]⟩) (hi:=⟨false,[],[]⟩) (WdsAt.nil _) (WdsAt.nil _) (WdsAt.nil _) (WdsAt.nil _)
theorem RatCell.zero (w:World):RatCell (w.alloc (.cells #[.bool false,.slice none 0 0,.slice none 0 0] 29)) w.heap.size ⟨false,[],[]⟩ :=
 RatCell.made (r:=⟨false,[],[]⟩) (WdsAt.nil w) (WdsAt.nil w)
theorem RatAt.parts {w:World} {v:Value} {r:Rw} (h:RatAt w v r):∃ n l m a1 c1 a2 c2,v=.agg #[.bool n,.slice a1 l c1,.slice a2 m c2]:=by
 obtain ⟨u1,u2,rfl,h1,h2⟩:=h;obtain ⟨a1,c1,rfl⟩:=h1.shape;obtain ⟨a2,c2,rfl⟩:=h2.shape;exact ⟨_,_,_,_,_,_,_,rfl⟩
theorem RatAt.box {w:World} {v:Value} {r:Rw} (h:RatAt w v r):∃ n l m a1 c1 a2 c2 w',v=.agg #[.bool n,.slice a1 l c1,.slice a2 m c2]/\w'=w.alloc (.cells #[.bool n,.slice a1 l c1,.slice a2 m c2] 29) /\
  RatCell w' w.heap.size r/\af w w'/\RatAt w' (.agg #[.bool n,.slice a1 l c1,.slice a2 m c2]) r/\w'.heap.size=w.heap.size+1:=by
 obtain ⟨u1,u2,rfl,h1,h2⟩:=h;obtain ⟨a1,c1,rfl⟩:=h1.shape;obtain ⟨a2,c2,rfl⟩:=h2.shape;exact ⟨_,_,_,_,_,_,_,_,rfl,rfl,RatCell.made h1 h2,(af.refl _).alloc _,⟨_,_,rfl,h1.kept ((af.refl _).alloc _),h2.kept ((af.refl _).alloc _)⟩,by simp⟩
theorem RatCell.read {w:World} {g:Nat} {r:Rw} (h:RatCell w g r):∃ n l m a1 c1 a2 c2,w.cell? ⟨g,0,none⟩=some (.bool n)/\w.cell? ⟨g,1,none⟩=some (.slice a1 l c1)/\w.cell? ⟨g,2,none⟩=some (.slice a2 m c2)/\g<w.heap.size /\
  Hid (RatAt w (.agg #[.bool n,.slice a1 l c1,.slice a2 m c2]) r):=by
 obtain ⟨a1,c1,a2,c2,⟨x0,x1,x2⟩,_,hl,hx⟩:=h.at;exact ⟨_,_,_,_,_,_,_,x0,x1,x2,hl,ae hx⟩
theorem SpanV.box {w:World} {v:Value} {lo hi:Rw} (h:SpanV w v lo hi):∃ n1 l1 m1 n2 l2 m2 a1 c1 a2 c2 a3 c3 a4 c4 w',v=.agg #[.bool n1,.slice a1 l1 c1,.slice a2 m1 c2,.bool n2,.slice a3 l2 c3,.slice a4 m2 c4] /\
  w'=w.alloc (.cells #[.bool n1,.slice a1 l1 c1,.slice a2 m1 c2,.bool n2,.slice a3 l2 c3,.slice a4 m2 c4] 44) /\
  SpnAt w' w.heap.size lo hi/\af w w'/\SpanV w' (.agg #[.bool n1,.slice a1 l1 c1,.slice a2 m1 c2,.bool n2,.slice a3 l2 c3,.slice a4 m2 c4]) lo hi/\w'.heap.size=w.heap.size+1:=by
 obtain ⟨a1,c1,a2,c2,a3,c3,a4,c4,rfl,h1,h2,h3,h4⟩:=h.shape;exact ⟨_,_,_,_,_,_,_,_,_,_,_,_,_,_,_,rfl,rfl,SpnAt.made h1 h2 h3 h4,(af.refl _).alloc _,h.kept ((af.refl _).alloc _),by simp⟩
theorem ArrAt.read2 {w:World} {g:Nat} {t:TypeId} {lo hi:Rw} (h:ArrAt w g t [lo,hi]):∃ n1 l1 m1 n2 l2 m2 a1 c1 a2 c2 a3 c3 a4 c4,
  w.cell? ⟨g,0,none⟩=some (.bool n1)/\w.cell? ⟨g,1,none⟩=some (.slice a1 l1 c1)/\w.cell? ⟨g,2,none⟩=some (.slice a2 m1 c2) /\
  w.cell? ⟨g,3,none⟩=some (.bool n2)/\w.cell? ⟨g,4,none⟩=some (.slice a3 l2 c3)/\w.cell? ⟨g,5,none⟩=some (.slice a4 m2 c4)/\g<w.heap.size /\
  Hid (RatAt w (.agg #[.bool n1,.slice a1 l1 c1,.slice a2 m1 c2]) lo)/\Hid (RatAt w (.agg #[.bool n2,.slice a3 l2 c3,.slice a4 m2 c4]) hi) /\
  Hid (SpanV w (.agg #[.bool n1,.slice a1 l1 c1,.slice a2 m1 c2,.bool n2,.slice a3 l2 c3,.slice a4 m2 c4]) lo hi):=by
 obtain ⟨a1,c1,a2,c2,⟨x0,x1,x2⟩,_,hl,y1,y2⟩:=ArrAt.at h 0 (by simp);obtain ⟨a3,c3,a4,c4,⟨x3,x4,x5⟩,_,_,y3,y4⟩:=ArrAt.at h 1 (by simp);exact ⟨_,_,_,_,_,_,_,_,_,_,_,_,_,_,x0,x1,x2,x3,x4,x5,hl,ae ⟨_,_,rfl,y1,y2⟩,ae ⟨_,_,rfl,y3,y4⟩,ae ⟨_,_,_,_,rfl,y1,y2,y3,y4⟩⟩
theorem SpnAt.read {w:World} {g:Nat} {lo hi:Rw} (h:SpnAt w g lo hi):∃ n1 l1 m1 n2 l2 m2 a1 c1 a2 c2 a3 c3 a4 c4,
  w.cell? ⟨g,0,none⟩=some (.bool n1)/\w.cell? ⟨g,1,none⟩=some (.slice a1 l1 c1)/\w.cell? ⟨g,2,none⟩=some (.slice a2 m1 c2) /\
  w.cell? ⟨g,3,none⟩=some (.bool n2)/\w.cell? ⟨g,4,none⟩=some (.slice a3 l2 c3)/\w.cell? ⟨g,5,none⟩=some (.slice a4 m2 c4)/\g<w.heap.size /\
  Hid (RatAt w (.agg #[.bool n1,.slice a1 l1 c1,.slice a2 m1 c2]) lo)/\Hid (RatAt w (.agg #[.bool n2,.slice a3 l2 c3,.slice a4 m2 c4]) hi) /\
  Hid (SpanV w (.agg #[.bool n1,.slice a1 l1 c1,.slice a2 m1 c2,.bool n2,.slice a3 l2 c3,.slice a4 m2 c4]) lo hi):=ArrAt.read2 h
theorem SpnAt.put {w:World} {g:Nat} {v:Value} {lo0 hi0 lo hi:Rw} (h:SpnAt w g lo0 hi0) (hv:SpanV w v lo hi):∃ n1 l1 m1 n2 l2 m2 a1 c1 a2 c2 a3 c3 a4 c4 w',v=.agg #[.bool n1,.slice a1 l1 c1,.slice a2 m1 c2,.bool n2,.slice a3 l2 c3,.slice a4 m2 c4] /\
  w'=(((((w.setCell ⟨g,0,none⟩ (.bool n1)).setCell ⟨g,1,none⟩ (.slice a1 l1 c1)).setCell ⟨g,2,none⟩ (.slice a2 m1 c2)).setCell ⟨g,3,none⟩ (.bool n2)).setCell ⟨g,4,none⟩ (.slice a3 l2 c3)).setCell ⟨g,5,none⟩ (.slice a4 m2 c4) /\
  ((∃ z,w.cell? ⟨g,0,none⟩=some z)/\(∃ z,w.cell? ⟨g,1,none⟩=some z)/\(∃ z,w.cell? ⟨g,2,none⟩=some z)/\(∃ z,w.cell? ⟨g,3,none⟩=some z)/\(∃ z,w.cell? ⟨g,4,none⟩=some z)/\(∃ z,w.cell? ⟨g,5,none⟩=some z)) /\
  (w.frozen? ⟨g,0,none⟩=false/\w.frozen? ⟨g,1,none⟩=false/\w.frozen? ⟨g,2,none⟩=false/\w.frozen? ⟨g,3,none⟩=false/\w.frozen? ⟨g,4,none⟩=false/\w.frozen? ⟨g,5,none⟩=false)/\g<w.heap.size /\
  Hid (w'.cell? ⟨g,0,none⟩=some (.bool n1)/\w'.cell? ⟨g,1,none⟩=some (.slice a1 l1 c1)/\w'.cell? ⟨g,2,none⟩=some (.slice a2 m1 c2)/\w'.cell? ⟨g,3,none⟩=some (.bool n2)/\w'.cell? ⟨g,4,none⟩=some (.slice a3 l2 c3)/\w'.cell? ⟨g,5,none⟩=some (.slice a4 m2 c4)) /\
  Hid (SpanV w' (.agg #[.bool n1,.slice a1 l1 c1,.slice a2 m1 c2,.bool n2,.slice a3 l2 c3,.slice a4 m2 c4]) lo hi)/\Hid (SpnAt w' g lo hi)/\Hid (az g w w')/\Hid (∀ W,af W w->W.heap.size<=g->af W w'):=by
 obtain ⟨a1,c1,a2,c2,a3,c3,a4,c4,rfl,h1,h2,h3,h4⟩:=hv.shape;obtain ⟨_,_,_,_,_,_,_,_,⟨x0,x1,x2,x3,x4,x5⟩,hf,hl,_⟩:=h.at;obtain ⟨w',hw',hy,hsp⟩:=tS h h1 h2 h3 h4;refine ⟨_,_,_,_,_,_,_,_,_,_,_,_,_,_,w',rfl,hw',⟨⟨_,x0⟩,⟨_,x1⟩,⟨_,x2⟩,⟨_,x3⟩,⟨_,x4⟩,⟨_,x5⟩⟩,⟨hf 0,hf 1,hf 2,hf 3,hf 4,hf 5⟩,hl,ae hy,ae hsp,ae ?_,ae ?_,ae fun W hk hg=>?_⟩
 ·obtain ⟨row,hfx,hn⟩:=ArrAt.fix h;have hO:=(((az.refl g w).store 0 (.bool lo.neg)).store 1 (.slice a1 lo.num.length c1)).store 2 (.slice a2 lo.den.length c2);rw [hw'];exact (h.lo h1 h2).hi (h3.apart hfx hn hO) (h4.apart hfx hn hO)
 ·rw [hw'];exact ((((((az.refl g w).store 0 _).store 1 _).store 2 _).store 3 _).store 4 _).store 5 _
 ·rw [hw'];exact (((((hk.store hg _ _).store hg _ _).store hg _ _).store hg _ _).store hg _ _).store hg _ _
theorem RatCell.save {w:World} {g:Nat} {v:Value} {r0 r:Rw} (h:RatCell w g r0) (hv:RatAt w v r):∃ n l m a1 c1 a2 c2 w',v=.agg #[.bool n,.slice a1 l c1,.slice a2 m c2] /\
  w'=((w.setCell ⟨g,0,none⟩ (.bool n)).setCell ⟨g,1,none⟩ (.slice a1 l c1)).setCell ⟨g,2,none⟩ (.slice a2 m c2) /\
  ((∃ z,w.cell? ⟨g,0,none⟩=some z)/\(∃ z,w.cell? ⟨g,1,none⟩=some z)/\(∃ z,w.cell? ⟨g,2,none⟩=some z)) /\
  (w.frozen? ⟨g,0,none⟩=false/\w.frozen? ⟨g,1,none⟩=false/\w.frozen? ⟨g,2,none⟩=false)/\g<w.heap.size /\
  Hid (w'.cell? ⟨g,0,none⟩=some (.bool n)/\w'.cell? ⟨g,1,none⟩=some (.slice a1 l c1)/\w'.cell? ⟨g,2,none⟩=some (.slice a2 m c2)) /\
  Hid (RatAt w' (.agg #[.bool n,.slice a1 l c1,.slice a2 m c2]) r)/\Hid (RatCell w' g r)/\Hid (∀ W,af W w->W.heap.size<=g->af W w'):=by
 obtain ⟨u1,u2,rfl,h1,h2⟩:=hv;obtain ⟨a1,c1,rfl⟩:=h1.shape;obtain ⟨a2,c2,rfl⟩:=h2.shape;obtain ⟨_,_,_,_,⟨x0,x1,x2⟩,hf,hl,_⟩:=h.at;have hs:=h.store h1 h2;obtain ⟨w',hw'⟩:∃ w',w'=((w.setCell ⟨g,0,none⟩ (.bool r.neg)).setCell ⟨g,1,none⟩ (.slice a1 r.num.length c1)).setCell ⟨g,2,none⟩ (.slice a2 r.den.length c2):=⟨_,rfl⟩;rw [<-hw'] at hs;refine ⟨_,_,_,_,_,_,_,w',rfl,hw',⟨⟨_,x0⟩,⟨_,x1⟩,⟨_,x2⟩⟩,hf,hl,ae ?_,ae ?_,ae hs,ae fun W hk hg=>?_⟩
 ·obtain ⟨_,_,_,_,hr,_⟩:=h;have hr2:=((hr.store 0 (.bool r.neg)).store 1 (.slice a1 r.num.length c1)).store 2 (.slice a2 r.den.length c2);rw [hw'];have c:=fun i (hi:i<3)=>hr2.cell (i:=i) (by simpa using hi)
  exact ⟨c 0 (by omega),c 1 (by omega),c 2 (by omega)⟩
 ·obtain ⟨a3,c3,a4,c4,_,hfx,_,_⟩:=h;rw [hw'];have hO:=(((az.refl g w).store 0 (.bool r.neg)).store 1 (.slice a1 r.num.length c1)).store 2 (.slice a2 r.den.length c2);have hn:∀ k x,Value.int k x ∉ [Value.bool r0.neg,.slice a3 r0.num.length c3,.slice a4 r0.den.length c4]:=fun k x hx=>by simp at hx
  exact ⟨_,_,rfl,h1.apart hfx hn hO,h2.apart hfx hn hO⟩
 ·rw [hw'];exact ((hk.store hg _ _).store hg _ _).store hg _ _
theorem SpnAt.free {w:World} {g:Nat} {lo hi:Rw} (h:SpnAt w g lo hi):∀ j,w.frozen? ⟨g,j,none⟩=false:=by
 obtain ⟨_,_,_,_,_,_,_,_,_,hf,_⟩:=h.at;exact hf
theorem SpanV.of2 {w:World} {b1 b2:Bool} {u1 u2 u3 u4:Value} {lo hi:Rw} (h1:RatAt w (.agg #[.bool b1,u1,u2]) lo) (h2:RatAt w (.agg #[.bool b2,u3,u4]) hi):SpanV w (.agg #[.bool b1,u1,u2,.bool b2,u3,u4]) lo hi:=by
 obtain ⟨x1,x2,e1,k1,k2⟩:=h1;obtain ⟨x3,x4,e2,k3,k4⟩:=h2;simp only [Value.agg.injEq,Array.mk.injEq,List.cons.injEq,Value.bool.injEq,and_true] at e1 e2;obtain ⟨rfl,rfl,rfl⟩:=e1;obtain ⟨rfl,rfl,rfl⟩:=e2;exact ⟨_,_,_,_,rfl,k1,k2,k3,k4⟩
theorem SpnAt.lay {w:World} {b1 b2:Bool} {u1 u2 u3 u4:Value} {lo hi:Rw} (hv:SpanV w (.agg #[.bool b1,u1,u2,.bool b2,u3,u4]) lo hi):SpnAt (w.alloc (.cells #[.bool b1,u1,u2,.bool b2,u3,u4] 44)) w.heap.size lo hi:=by
 obtain ⟨_,_,_,_,e,h1,h2,h3,h4⟩:=hv;simp only [Value.agg.injEq,Array.mk.injEq,List.cons.injEq,Value.bool.injEq,and_true] at e;obtain ⟨rfl,rfl,rfl,rfl,rfl,rfl⟩:=e;exact SpnAt.made h1 h2 h3 h4
theorem SpnAt.set {w:World} {g:Nat} {b1 b2:Bool} {u1 u2 u3 u4:Value} {lo0 hi0 lo hi:Rw} (h:SpnAt w g lo0 hi0) (hv:SpanV w (.agg #[.bool b1,u1,u2,.bool b2,u3,u4]) lo hi) :
  SpnAt ((((((w.setCell ⟨g,0,none⟩ (.bool b1)).setCell ⟨g,1,none⟩ u1).setCell ⟨g,2,none⟩ u2).setCell ⟨g,3,none⟩ (.bool b2)).setCell ⟨g,4,none⟩ u3).setCell ⟨g,5,none⟩ u4) g lo hi:=by
 obtain ⟨_,_,_,_,e,h1,h2,h3,h4⟩:=hv;simp only [Value.agg.injEq,Array.mk.injEq,List.cons.injEq,Value.bool.injEq,and_true] at e;obtain ⟨rfl,rfl,rfl,rfl,rfl,rfl⟩:=e;obtain ⟨row,hfx,hn⟩:=ArrAt.fix h;have hO:=(((az.refl g w).store 0 (.bool lo.neg)).store 1 u1).store 2 u2;exact (h.lo h1 h2).hi (h3.apart hfx hn hO) (h4.apart hfx hn hO)
theorem ArrAt.two {w:World} {r s:Rw} {u1 u2 u3 u4:Value} {b1 b2:Bool} (h1:RatAt w (.agg #[.bool b1,u1,u2]) r) (h2:RatAt w (.agg #[.bool b2,u3,u4]) s) :
  ArrAt (w.alloc (.cells #[.bool b1,u1,u2,.bool b2,u3,u4] 29)) w.heap.size 29 [r,s]:=by
 obtain ⟨x1,x2,e1,k1,k2⟩:=h1;obtain ⟨x3,x4,e2,k3,k4⟩:=h2;simp only [Value.agg.injEq,Array.mk.injEq,List.cons.injEq,Value.bool.injEq,and_true] at e1 e2;obtain ⟨rfl,rfl,rfl⟩:=e1;obtain ⟨rfl,rfl,rfl⟩:=e2;have hk:af w (w.alloc (.cells #[.bool r.neg,u1,u2,.bool s.neg,u3,u4] 29)):=(af.refl _).alloc _;refine ⟨[(r,u1,u2),(s,u3,u4)],rfl,ai.made w #[.bool r.neg,u1,u2,.bool s.neg,u3,u4] 29,bo.made w #[.bool r.neg,u1,u2,.bool s.neg,u3,u4] 29,fun x hx=>?_⟩;rcases List.mem_cons.1 hx with rfl | hx
 ·exact ⟨k1.kept hk,k2.kept hk⟩
 ·rw [List.mem_singleton] at hx;subst hx;exact ⟨k3.kept hk,k4.kept hk⟩
def lF (xs:List Int) (ps:List Rw):Nat :=
 if cU xs≠0 then cU xs else if (aR xs).any (fun s=>decide ((ps.length:Int)<=nz s))=true then 11 else if bI ps=true then 3 else 0
theorem pX (v:Value) (ps:List Rw) (w:World) (hv:RatsAt w v ps) (hs:∀ x∈ps,x.Short 34359738368):Calls Tryz.prog 56 #[v] w fun e w'=>e=.returned (.bool (bI ps))/\af w w':=by
 obtain ⟨a,c,rfl,⟨hc,_⟩,hl,hx⟩:=hv;obtain ⟨n,hn⟩:∃ n,n=ps.length:=⟨_,rfl⟩;have hbig:n<=140737488355328:=by omega
 rw [<-hn];have HX:=ae hx;have HN:=ae hn;have HLT:=ae hs;clear hx hn hl hc hs;go_enter Tryz.func56,Tryz.ntmps56;go_wp2_with fail;go_loopg [7] n (fun kx i wr=>∃ k:Nat,k<=n/\i=.int .i64 k/\n - k<=kx/\Hid (∀ x∈ps.take k,du x=true)/\Hid (af w wr))
 case atStart=>exact ⟨0,Nat.zero_le _,rfl,by omega,ae (by simp),ae (af.refl _)⟩
 case round =>
  obtain ⟨k,hk,rfl,hkx,HF,HK⟩:=hrel;by_cases hlt:k<n
  ·have hkl:k<ps.length:=by have:=HN.out;omega
   obtain ⟨b,o,u1,u2,rfl,hrg,hw1,hw2⟩:=HX.out k hkl;have hrg2:=cJ hrg HK.out;have hxl:=HLT.out ps[k] (List.getElem_mem _);obtain ⟨x,hxx⟩:∃ x,x=ps[k]:=⟨_,rfl⟩;rw [<-hxx] at hrg2 hxl hw1 hw2;have HXX:=ae hxx;obtain ⟨a1,c1,rfl⟩:=hw1.shape;obtain ⟨a2,c2,rfl⟩:=hw2.shape;have HC:Hid (∀ W,af w W->Calls Tryz.prog 28 #[.agg #[.bool x.neg,.slice a1 x.num.length c1,.slice a2 x.den.length c2]] W fun e W'=>e=.returned (.bool (du x))/\af W W'):=ae fun W hk=>qB _ x W ⟨_,_,rfl,hw1.kept hk,hw2.kept hk⟩ ⟨Nat.le_trans hxl.1 (by omega),Nat.le_trans hxl.2 (by omega)⟩
   generalize x.num.length=n1 at *;generalize x.den.length=n2 at *;have HRG:Hid (wr.rangeAt b (o+k*3) [.bool x.neg,.slice a1 n1 c1,.slice a2 n2 c2]):=ae hrg2;have hkn:(k:Int)<(n:Int):=by omega
   clear hrg hrg2 hxx hxl hw1 hw2;cases hq:du x with
   | false =>
    rw [hq] at HC;have HQ:=ae hq;clear hq;go_wp2_with (first | (with_reducible refine wpList_load_mid rfl 29 _ rfl b (o+k*3) rfl _ _ HRG.out Tryz.underlying29 rfl (by kernel_rfl) ?_) | (go_at_call 28;refine (HC.out _ (HK.out.alloc _)).mono ?_;rintro e w' ⟨rfl,hK2⟩));go_ret;have hb:bI ps=true:=List.any_eq_true.2 ⟨x,by rw [HXX.out];exact List.getElem_mem _,by rw [HQ.out];rfl⟩;exact ⟨by rw [hb];rfl,(HK.out.alloc _).trans hK2⟩
   | true =>
    rw [hq] at HC;have HQ:=ae hq;clear hq;go_wp2_with (first | (with_reducible refine wpList_load_mid rfl 29 _ rfl b (o+k*3) rfl _ _ HRG.out Tryz.underlying29 rfl (by kernel_rfl) ?_) | (go_at_call 28;refine (HC.out _ (HK.out.alloc _)).mono ?_;rintro e w' ⟨rfl,hK2⟩));go_roundg (n - (k+1))
    case measure=>omega
    case rel =>
     refine ⟨k+1,by omega,by go_num,Nat.le_refl _,ae ?_,ae ((HK.out.alloc _).trans hK2)⟩;intro y hy;rw [List.take_succ_eq_append_getElem hkl] at hy;rcases List.mem_append.1 hy with hy | hy
     ·exact HF.out y hy
     ·simp at hy;rw [hy,<-HXX.out];exact HQ.out
  ·have hh:=HF.out;rw [List.take_of_length_le (by have:=HN.out;omega)] at hh;have HB:Hid (bI ps=false):=ae (by unfold bI;rw [List.any_eq_false];intro y hy;simp [hh y hy]);have hkn:¬ (k:Int)<(n:Int):=by omega
   clear hh;go_wp2;go_ret;exact ⟨by rw [HB.out];rfl,HK.out⟩
theorem fR (xv v:Value) (xs:List Int) (ps:List Rw) (w:World) (hx:am w xv xs) (hv:RatsAt w v ps) (h3:∀ r∈ps,r.Short 3) :
  Calls Tryz.prog 46 #[xv,v] w fun e w'=>e=.returned (aV (lF xs ps))/\af w w':=by
 have HC1:Hid (∀ W,af w W->Calls Tryz.prog 94 #[xv] W fun e w'=>e=.returned (aV (cU xs))/\af W w'):=ae fun W h=>n_ xv xs W (hx.kept h)
 have HBA:=ae (fun W (h:af w W)=>pX v ps W (hv.kept h) (fun r hr=>⟨Nat.le_trans (h3 r hr).1 (by omega),Nat.le_trans (h3 r hr).2 (by omega)⟩));obtain ⟨Q,hQ⟩:∃ Q,Q=lF xs ps:=⟨_,rfl⟩;rw [<-hQ];unfold lF at hQ;obtain ⟨xa,xc,hxs,hxc,hxl,hxg⟩:=id hx;obtain ⟨m,hm⟩:∃ m,m=xs.length:=⟨_,rfl⟩;rw [<-hm] at hxs;subst hxs;obtain ⟨pa,pc,rfl⟩:=hv.shape;obtain ⟨q1,hq1⟩:∃ q1,q1=cU xs:=⟨_,rfl⟩;rw [<-hq1] at HC1 hQ;have HF:=ae hx;have HM:=ae hm;have HQ:=ae hQ;have HQ1:=ae hq1;have hml:m<=140737488355328:=by omega
 have hpl:=hv.len;clear hx hv hm hQ hq1 h3 hxc hxl hxg;by_cases h1:q1=0
 ·subst h1;rw [aH] at HC1;obtain ⟨hlen,hok⟩:=Ai (HQ1.out.symm);obtain ⟨hys,hmk⟩:=nC hok;obtain ⟨ss,hss⟩:∃ ss,ss=aR xs:=⟨_,rfl⟩;have hq2:=HQ.out;rw [if_neg (by simp),<-hss] at hq2;rw [<-hss] at hys hmk;have hms:m=ss.length:=by rw [HM.out,hss];unfold aR;rw [List.length_map]
  have HFS:Hid (am w (.slice xa m xc) (aO ss)):=ae (by rw [<-hys];exact HF.out);have HMK:Hid (∀ s∈ss,s<16777216):=ae fun s hs=>by have:=hmk s hs;unfold Mk at this;omega
  have HMS:=ae hms;have HGR:Hid (∀ (s:Nat) (W:World),s<16777216->Calls Tryz.prog 95 #[.int .i64 s] W fun e w'=>e=.returned (.int .i64 (nz s))/\af W w'):=ae fun s W hs=>(ya s hs W).mono fun _ _ ⟨h1,h2⟩=>⟨h1,h2 ▸ af.refl _⟩
  obtain ⟨pn,hpn⟩:∃ pn,pn=ps.length:=⟨_,rfl⟩;rw [<-hpn] at hq2 hpl HBA⊢;have HQ3:=ae hq2;clear hq2 hys hmk hss hms hlen hok hpn;go_enter Tryz.func46,Tryz.ntmps46;go_wp2_with fail;refine (HC1.out _ (af.refl _)).mono ?_;rintro e w4 ⟨rfl,hk4⟩;have HK4:=ae hk4;clear hk4;go_wp2_with fail;go_loopg [15] m (fun kx s30 wr=>∃ j:Nat,j<=m/\s30=.int .i64 j/\m - j<=kx/\Hid (∀ s∈ss.take j,nz s<(pn:Int))/\Hid (af w4 wr))
  case atStart=>exact ⟨0,Nat.zero_le _,rfl,by omega,ae (by simp),ae (af.refl _)⟩
  case round =>
   obtain ⟨j,hj,rfl,hjx,HG,HKr⟩:=hrel;have HKw:=ae (HK4.out.trans HKr.out);by_cases hlt:j<m
   ·have hjl:j<ss.length:=by have:=HMS.out;omega
    obtain ⟨b,o,rfl,hce⟩:=HFS.out.get j (by simpa [aO] using hjl);obtain ⟨s,hs⟩:∃ s,s=ss[j]:=⟨_,rfl⟩;have e1:(aO ss)[j]'(by simpa [aO] using hjl)=(s:Int):=by rw [hs];simp [aO]
    rw [e1] at hce;have hcr:=HKw.out.cell hce;have HS:=ae hs;have HGC:=ae (fun W=>HGR.out s W (HMK.out s (by rw [hs];exact List.getElem_mem _)));have hji:(j:Int)<(m:Int):=by omega
    obtain ⟨g,hg⟩:∃ g,g=nz s:=⟨_,rfl⟩;have HGG:=ae hg;rw [<-hg] at HGC;clear e1 hce hs hg;by_cases hge:(pn:Int)<=g
    ·have HQV:Hid (Q=11):=ae (by
      have h:=HQ3.out;rw [if_pos (List.any_eq_true.2 ⟨s,by rw [HS.out];exact List.getElem_mem _,decide_eq_true (by rw [<-HGG.out];exact hge)⟩)] at h;exact h)
     have dge:decide ((pn:Int)<=g)=true:=decide_eq_true hge;go_wp2_with fail;refine (HGC.out _).mono ?_;rintro e w5 ⟨rfl,hk5⟩;have HK5:=ae (HKw.out.trans hk5);clear hk5 hcr;go_wp2;go_ret;exact ⟨by rw [HQV.out];rfl,HK5.out⟩
    ·have hgl:¬ (pn:Int)<=g:=hge;have dgl:decide ((pn:Int)<=g)=false:=decide_eq_false hge;go_wp2_with fail;refine (HGC.out _).mono ?_;rintro e w5 ⟨rfl,hk5⟩;have HK5:=ae (HKr.out.trans hk5);clear hk5 hcr;go_wp2_with fail;go_roundg (m - (j+1))
     case measure=>omega
     case rel=>exact ⟨j+1,by omega,by go_num,Nat.le_refl _,ae (fun y hy=>by
      rw [List.take_succ_eq_append_getElem hjl] at hy;rcases List.mem_append.1 hy with hy | hy
      ·exact HG.out y hy
      ·simp at hy;rw [hy,<-HS.out,<-HGG.out];omega),HK5⟩
   ·have hji:¬ (j:Int)<(m:Int):=by omega
    have HGA:Hid (∀ s∈ss,nz s<(pn:Int)):=ae (by have h:=HG.out;rwa [List.take_of_length_le (by have:=HMS.out;omega)] at h)
    have HQA:Hid (Q=if bI ps=true then 3 else 0):=ae (by
     have h:=HQ3.out
     rw [if_neg (by
      intro h2;obtain ⟨s,hs,h3⟩:=List.any_eq_true.1 h2;have:=HGA.out s hs;have:=of_decide_eq_true h3;omega)] at h
     exact h)
    cases hbad:bI ps with
    | true =>
     rw [hbad] at HBA HQA;have HQV:Hid (Q=3):=ae (by have h:=HQA.out;rw [if_pos rfl] at h;exact h);clear hbad;go_wp2_with fail;refine (HBA.out _ HKw.out).mono ?_;rintro e w5 ⟨rfl,hk5⟩;have HK5:=ae (HKw.out.trans hk5);clear hk5;go_wp2;go_ret;exact ⟨by rw [HQV.out];rfl,HK5.out⟩
    | false =>
     rw [hbad] at HBA HQA;have HQV:Hid (Q=0):=ae (by have h:=HQA.out;rw [if_neg (by simp)] at h;exact h);clear hbad;go_wp2_with fail;refine (HBA.out _ HKw.out).mono ?_;rintro e w5 ⟨rfl,hk5⟩;have HK5:=ae (HKw.out.trans hk5);clear hk5;go_wp2;go_ret;exact ⟨by rw [HQV.out];rfl,HK5.out⟩
 ·have HQV:Hid (Q=q1):=ae (by have h:=HQ.out;rw [if_pos h1] at h;exact h);have hqe:aV q1=.iface 60 (.int .i64 q1):=aA h1;rw [HQV.out];have HH1:=ae h1;have hqn:((q1:Nat):Int)≠0:=by omega
  have hqb:(((q1:Nat):Int) != 0)=true:=by simpa using hqn
  try rw [hqe] at HC1⊢
  clear hqe;go_enter Tryz.func46,Tryz.ntmps46;go_wp2_with fail;refine (HC1.out _ (af.refl _)).mono ?_;rintro e w5 ⟨rfl,hk5⟩;have HK5:=ae hk5;clear hk5;go_wp2;go_ret;exact ⟨rfl,HK5.out⟩
def ie (ps:List Rw):List Rw:=ps.map fun r=>ah (1 - aj r)
def aP (f:Nat->Rat) (l:List Nat):Rat:=l.foldl (fun a s=>a*(1 - f s)) 1
def aC (f:Nat->Rat) (l:List Nat):Rat:=l.foldl (fun a s=>gw a (f s)) 0
def fQ (ps:List Rw) (s:Nat):Rat:=dW s ps ps.length
def gQ (ps:List Rw) (s:Nat):Rat:=dW s (ie ps) (ie ps).length
theorem lD (ps:List Rw):(ie ps).length=ps.length:=List.length_map ..
theorem DT (ps:List Rw) {k:Nat} (hk:k<ps.length):(ie ps).getD k default=ah (1 - aj (ps.getD k default)):=by
 simp [ie,List.getD_eq_getElem?_getD,hk]
theorem Fg (ps:List Rw):∀ r∈ie ps,r.Ok:=fun r hr=>by
 obtain ⟨x,_,rfl⟩:=List.mem_map.1 hr;exact bD _
theorem CH (ps:List Rw) {k:Nat} (hk:k<ps.length):(ie ps).take (k+1)=(ie ps).take k++[ah (1 - aj (ps.getD k default))]:=by
 rw [List.take_succ_eq_append_getElem (by rw [lD];exact hk)];congr 2;simp [ie,List.getD_eq_getElem?_getD,hk]
theorem oz (f:Nat->Rat) (l:List Nat) {k:Nat} (hk:k<l.length):aP f (l.take (k+1))=aP f (l.take k)*(1 - f l[k]):=by
 unfold aP;rw [List.take_succ_eq_append_getElem hk,List.foldl_append];rfl
theorem mJ (f:Nat->Rat) (l:List Nat) {k:Nat} (hk:k<l.length):aC f (l.take (k+1))=gw (aC f (l.take k)) (f l[k]):=by
 unfold aC;rw [List.take_succ_eq_append_getElem hk,List.foldl_append];rfl
theorem k_ (f:Nat->Rat) (l:List Nat):aP f l=k' f l:=rfl
theorem p' (f:Nat->Rat) (l:List Nat):aC f l=sX f l:=by
 unfold aC sX;congr 1;funext a s;unfold gw;split <;> split <;> grind
theorem vz {n d:Nat} (hd:d≠0) (h:n<=d):(1:Rat) - mkRat (sg false n) d=mkRat (sg false (d - n)) d:=by
 have e:mkRat (sg false (d - n)) d+mkRat (sg false n) d=1:=by
  rw [Rat.mkRat_add_mkRat _ _ hd hd];have e1:(1:Rat)=mkRat 1 1:=rfl;rw [e1,Rat.mkRat_eq_iff (Nat.mul_ne_zero hd hd) (by decide)];have e2:((d - n:Nat):Int)=(d:Int) - n:=by omega
  simp only [sg]
  push_cast
  grind
 grind
theorem vS {r:Rw} (hw:r.Ok) (h:du r=true) {k:Nat} (h3:r.Short k) (hk:1<=k):(ah (1 - aj r)).Short k:=by
 have hok:=ay hw;have hsh:=aB h3 hk;have hu:=qL hw h
 have h1:(ag r).1=false:=by
  unfold du at h;simp only [Bool.and_eq_true,Bool.not_eq_true'] at h;unfold ag;split
  ·exact h.1.2
  ·rfl
 have h2:nv (ag r).2.1<=nv (ag r).2.2:=by
  unfold du at h;simp only [Bool.and_eq_true,decide_eq_true_eq] at h;unfold ag;split
  ·exact h.2
  ·exact Nat.zero_le _
 have e:1 - aj r=mkRat (sg false (nv (ag r).2.2 - nv (ag r).2.1)) (nv (ag r).2.2):=by
  unfold aj;rw [h1];exact vz hok.2.2.1 h2
 rw [e];exact dz _ hok.2.2.1 (Nat.le_trans (bC (Nat.sub_le _ _)) (ri hok.2.1 hsh.2)) (ri hok.2.1 hsh.2)
theorem zZ {ps:List Rw} (h:bI ps=false):∀ r∈ps,du r=true:=fun r hr=>by
 unfold bI at h;rw [List.any_eq_false] at h;simpa using h r hr
theorem qM {ps:List Rw} (hok:∀ r∈ps,r.Ok) (hb:bI ps=false) {k:Nat} (h3:∀ r∈ps,r.Short k) (hk:1<=k):∀ r∈ie ps,r.Short k:=fun r hr=>by
 obtain ⟨x,hx,rfl⟩:=List.mem_map.1 hr;exact vS (hok x hx) (zZ hb x hx) (h3 x hx) hk
theorem jv:(ah 1).Short 1:=⟨by decide +kernel,by decide +kernel⟩
theorem df {x:Rat} {k:Nat} (h:(ah x).Short k) (hk:1<=k):(ah (1 - x)).Short (k+2):=by
 have h2:=zi (bD 1) (bD x) jv h (by decide) hk;rw [al,al] at h2;exact ⟨Nat.le_trans h2.1 (by omega),Nat.le_trans h2.2 (by omega)⟩
theorem oA {f:Nat->Rat} {c:Nat} (hc:1<=c):∀ {l:List Nat},(∀ s∈l,(ah (f s)).Short c)->∀ k,k<=l.length->(ah (aP f (l.take k))).Short ((c+2)*k+1):=by
 intro l h k;induction k with
 | zero=>intro _;exact jv
 | succ k ih =>
  intro hk;have hl:k<l.length:=by omega
  rw [oz f l hl];have h2:=gE (bD (aP f (l.take k))) (bD (1 - f l[k])) (ih (by omega)) (df (h _ (List.getElem_mem hl)) hc) (by omega) (by omega);rw [al,al] at h2;have e:(c+2)*(k+1)=(c+2)*k+(c+2):=Nat.mul_succ _ _;exact ⟨Nat.le_trans h2.1 (by omega),Nat.le_trans h2.2 (by omega)⟩
theorem sA {f:Nat->Rat} {c:Nat} (hc:1<=c) {l:List Nat} (h:∀ s∈l,(ah (f s)).Short c):∀ k,k<=l.length->(ah (aC f (l.take k))).Short c:=by
 intro k;induction k with
 | zero=>intro _;exact ⟨by show (ah 0).num.length<=c;exact Nat.le_trans (show (ah 0).num.length<=0 by decide) (by omega),by show (ah 0).den.length<=c;exact Nat.le_trans (show (ah 0).den.length<=0 by decide) (by omega)⟩
 | succ k ih =>
  intro hk;have hl:k<l.length:=by omega
  rw [mJ f l hl];unfold gw;split
  ·exact ih (by omega)
  ·exact h _ (List.getElem_mem hl)
theorem jn {ps:List Rw} (hok:∀ r∈ps,r.Ok) (h3:∀ r∈ps,r.Short 3) (h30:ps.length<=30) (s:Nat):(ah (fQ ps s)).Short 91:=by
 have h:=oO (s:=s) h3 hok ps.length (Nat.le_refl _);exact ⟨Nat.le_trans h.1 (by omega),Nat.le_trans h.2 (by omega)⟩
theorem kV {ps:List Rw} (hok:∀ r∈ps,r.Ok) (hb:bI ps=false) (h3:∀ r∈ps,r.Short 3) (h30:ps.length<=30) (s:Nat):(ah (gQ ps s)).Short 91 :=
 jn (Fg ps) (qM hok hb h3 (by decide)) (by rw [lD];exact h30) s
theorem Fs (ps:List Rw) (s:Nat):fQ ps s=gm (eP ps) ps.length s:=(xk s ps ps.length).symm
theorem su {q q':Nat->Rat} (s:Nat):∀ n,(∀ i,i<n->q i=q' i)->gm q n s=gm q' n s:=by
 intro n;induction n with
 | zero=>intro _;rfl
 | succ n ih=>intro h;rw [ke,ke,ih fun i hi=>h i (by omega),h n (by omega)]
theorem Fu (ps:List Rw) (s:Nat):gQ ps s=gI (eP ps) ps.length s:=by
 show dW s (ie ps) (ie ps).length=_;rw [<-xk,wF,lD];exact su s ps.length fun i hi=>by unfold eP;rw [DT ps hi,al]
theorem RatAt.boxc {w:World} {v:Value} {r:Rw} (h:RatAt w v r):∃ n l m a1 c1 a2 c2 w',v=.agg #[.bool n,.slice a1 l c1,.slice a2 m c2]/\w'=w.alloc (.cells #[.bool n,.slice a1 l c1,.slice a2 m c2] 29) /\
  (w'.cell? ⟨w.heap.size,0,none⟩=some (.bool n)/\w'.cell? ⟨w.heap.size,1,none⟩=some (.slice a1 l c1)/\w'.cell? ⟨w.heap.size,2,none⟩=some (.slice a2 m c2)) /\
  RatCell w' w.heap.size r/\af w w'/\RatAt w' (.agg #[.bool n,.slice a1 l c1,.slice a2 m c2]) r/\w'.heap.size=w.heap.size+1:=by
 obtain ⟨n,l,m,a1,c1,a2,c2,w',rfl,rfl,h1,h2,h3,h4⟩:=h.box;have hr:=ai.made w #[.bool n,.slice a1 l c1,.slice a2 m c2] 29;have q0:=hr.cell (i:=0) (by simp);have q1:=hr.cell (i:=1) (by simp);have q2:=hr.cell (i:=2) (by simp);exact ⟨n,l,m,a1,c1,a2,c2,_,rfl,rfl,⟨q0,q1,q2⟩,h1,h2,h3,h4⟩
theorem fd (v:Value) (r:Rw) (w:World) (hv:RatAt w v r) (hs:r.Short 34359738368):Calls Tryz.prog 47 #[v] w fun e w'=>(∃ v',e=.returned v'/\RatAt w' v' (ah (1 - aj r)))/\af w w':=by
 have HOF:Hid (∀ W,Calls Tryz.prog 96 #[.int .i64 1] W fun e w'=>(∃ v',e=.returned v'/\RatAt w' v' (ah 1))/\af W w'):=ae fun W=>nF 1 W (by omega) (by omega)
 have HSB:Hid (∀ W u1 u2,RatAt W u1 (ah 1)->RatAt W u2 r->Calls Tryz.prog 70 #[u1,u2] W fun e w'=>(∃ v',e=.returned v'/\RatAt w' v' (ah (1 - aj r)))/\af W w'):=ae fun W u1 u2 k1 k2=>by
  have h:=o_ u1 u2 _ _ W k1 k2 ⟨Nat.le_trans jv.1 (by omega),Nat.le_trans jv.2 (by omega)⟩ ⟨Nat.le_trans hs.1 (by omega),Nat.le_trans hs.2 (by omega)⟩;rw [al] at h;exact h
 obtain ⟨n1,l1,m1,a1,c1,b1,d1,w1,rfl,hw1,⟨q0,q1,q2⟩,hc1,hk1,ha1,hz1⟩:=hv.boxc;obtain ⟨w2,hw2⟩:∃ w2,w2=w1.alloc (.cells #[.bool false,.slice none 0 0,.slice none 0 0] 29):=⟨_,rfl⟩;have HC:Hid (RatCell w2 (w.heap.size+1) ⟨false,[],[]⟩):=ae (by rw [hw2,<-hz1];exact RatCell.zero w1);have hk2:af w1 w2:=by rw [hw2];exact (af.refl _).alloc _
 have HX:=ae (ha1.kept hk2);have x0:=hk2.cell q0;have x1:=hk2.cell q1;have x2:=hk2.cell q2;have HK2:=ae (hk1.trans hk2);have HW2:Hid (w2=(w.alloc (.cells #[.bool n1,.slice a1 l1 c1,.slice b1 m1 d1] 29)).alloc (.cells #[.bool false,.slice none 0 0,.slice none 0 0] 29)):=ae (by rw [hw2,hw1]);generalize ah (1 - aj r)=R at *;clear hv hw1 hc1 hk1 ha1 hz1 hw2 hk2 q0 q1 q2 hs;go_enter Tryz.func47,Tryz.ntmps47;go_wp2_with fail;rw [<-HW2.out]
 go_region_with (first
  | (go_at_call 96;(with_reducible refine (HOF.out _).mono ?_);rintro e w3 ⟨⟨v3,rfl,hv3⟩,hk3⟩;have hkd:=(af.refl _).drew.trans hk3;have HV3:=ae hv3;have HX3:=ae (HX.out.kept hkd);have y0:=hkd.cell x0;have y1:=hkd.cell x1;have y2:=hkd.cell x2;have HC3:=ae (HC.out.kept hkd);have HK3:=ae (HK2.out.trans hkd);clear hv3 hk3 hkd)
  | (go_at_call 70;(with_reducible refine (HSB.out _ _ _ HV3.out HX3.out).mono ?_);rintro e w4 ⟨⟨v4,rfl,hv4⟩,hk4⟩;have HK4:=ae (HK3.out.trans hk4);obtain ⟨n5,l5,m5,a5,c5,b5,d5,w6,rfl,hw6,⟨⟨z0,p0⟩,⟨z1,p1⟩,⟨z2,p2⟩⟩,⟨f0,f1,f2⟩,hl6,Y,HRV,_,HKP⟩:=(HC3.out.kept hk4).save hv4;have HKE:=ae (HKP.out _ HK4.out (by omega));rw [hw6] at Y HRV HKE;clear hv4 hk4 hw6 HKP))
 all_goals
  go_wp2;refine bodyPost_ret (v:=.agg #[.bool n5,.slice a5 l5 c5,.slice b5 m5 d5]) ?_ rfl ⟨⟨_,rfl,HRV.out⟩,HKE.out⟩;simp [results,Tryz.results47,go_sem,Y.out.1,Y.out.2.1,Y.out.2.2]
theorem fS (s:Nat) (v:Value) (ps:List Rw) (w:World) (hs:s<16777216) (hv:RatsAt w v ps) (hp3:∀ r∈ps,r.Short 3) (hp30:ps.length<=30) :
  Calls Tryz.prog 49 #[.int .i64 s,v] w fun e w'=>(∃ v',e=.returned v'/\RatAt w' v' (ah (fQ ps s)))/\af w w':=by
 have HOF:Hid (∀ W,Calls Tryz.prog 96 #[.int .i64 1] W fun e w'=>(∃ v',e=.returned v'/\RatAt w' v' (ah (dW s ps 0)))/\af W w'):=ae fun W=>nF 1 W (by omega) (by omega)
 have HH:=ae (fun (i:Nat) W=>kW s i hs W);have HSH:=ae (fun n hn=>oO (s:=s) hp3 hv.ok n hn);have HV:=ae hv;have HP3:=ae hp3;obtain ⟨a,c,rfl⟩:=hv.shape;obtain ⟨n,hn⟩:∃ n,n=ps.length:=⟨_,rfl⟩;rw [<-hn] at HV hp30;have HN:=ae hn;obtain ⟨R,hR⟩:∃ R,R=ah (fQ ps s):=⟨_,rfl⟩;rw [<-hR,<-hn];have HRR:Hid (R=ah (dW s ps n)):=ae (by rw [hR,hn];rfl);clear hR;obtain ⟨w2,hw2⟩:∃ w2,w2=w.alloc (.cells #[.bool false,.slice none 0 0,.slice none 0 0] 29):=⟨_,rfl⟩;have HZ:Hid (RatCell w2 w.heap.size ⟨false,[],[]⟩):=ae (by rw [hw2];exact RatCell.zero w);have HK0:Hid (af w w2):=ae (by rw [hw2];exact (af.refl w).alloc _);have HW2:=ae hw2;clear hn hv hp3 hs hw2;go_enter Tryz.func49,Tryz.ntmps49;go_wp2_with fail;rw [<-HW2.out];refine (HOF.out _).mono ?_;rintro e w3 ⟨⟨v3,rfl,hv3⟩,hk3⟩;have HZ3:=ae (HZ.out.kept hk3);have HK3:=ae (HK0.out.trans hk3);obtain ⟨n3,l3,m3,a3,c3,b3,d3,w4,rfl,hw4,hc4,hk4,_,_⟩:=hv3.box;have HW4:=ae hw4;have HC:=ae hc4;have HK4:=ae hk4;clear hv3 hk3 hw4 hc4 hk4;go_wp2_with fail;rw [<-HW4.out];go_loopg [11] n (fun kx s10 wr=>∃ k:Nat,k<=n/\s10=.int .i64 k/\n - k<=kx/\Hid (RatCell wr w3.heap.size (ah (dW s ps k)))/\Hid (af w3 wr))
 case atStart=>exact ⟨0,Nat.zero_le _,rfl,by omega,HC,HK4⟩
 case round =>
  obtain ⟨k,hk,rfl,hkx,HX,HKr⟩:=hrel;by_cases hlt:k<n
  ·have hkn:(k:Int)<(n:Int):=by omega
   have hkl:k<ps.length:=by have:=HN.out;omega
   obtain ⟨b,o,u1,u2,rfl,hrg,hw1,hw2⟩:=HV.out.get k hkl;obtain ⟨a6,c6,rfl⟩:=hw1.shape;obtain ⟨a7,c7,rfl⟩:=hw2.shape;have HKw:=ae (HK3.out.trans HKr.out);have hrg2:=cJ hrg HKw.out;have hq:RatAt wr (.agg #[.bool (ps.getD k default).neg,.slice a6 (ps.getD k default).num.length c6,.slice a7 (ps.getD k default).den.length c7]) (ps.getD k default):=⟨_,_,rfl,hw1.kept HKw.out,hw2.kept HKw.out⟩
   have hx3:(ps.getD k default).Short 3:=by
    have e:ps.getD k default=ps[k]:=by simp [List.getD_eq_getElem?_getD,hkl]
    rw [e];exact HP3.out _ (List.getElem_mem _)
   have hsk:=HSH.out k (by have:=HN.out;omega);obtain ⟨x,hxx⟩:∃ x,x=ps.getD k default:=⟨_,rfl⟩;have HXX:=ae hxx;rw [<-hxx] at hrg2 hq hx3;have HX3:=ae hx3;have HSK:=ae hsk;obtain ⟨w5,hw5⟩:∃ w5,w5=wr.alloc (.cells #[.bool x.neg,.slice a6 x.num.length c6,.slice a7 x.den.length c7] 29):=⟨_,rfl⟩;have hr5:=ai.made wr #[.bool x.neg,.slice a6 x.num.length c6,.slice a7 x.den.length c7] 29;rw [<-hw5] at hr5;have hk5:af wr w5:=by rw [hw5];exact (af.refl _).alloc _
   have q0:=hr5.cell (i:=0) (by simp);have q1:=hr5.cell (i:=1) (by simp);have q2:=hr5.cell (i:=2) (by simp);simp only [List.getElem_cons_succ,List.getElem_cons_zero] at q0 q1 q2;have HQ5:=ae (hq.kept hk5);generalize x.neg=y0 at *;generalize x.num.length=y1 at *;generalize x.den.length=y2 at *;have HRG:Hid (wr.rangeAt b (o+k*3) [.bool y0,.slice a6 y1 c6,.slice a7 y2 c7]):=ae hrg2;have HK5:=ae hk5;have HW5:=ae hw5;clear hrg hrg2 hw1 hw2 hq hx3 hsk hxx hw5 hr5 hk5 hkl;cases hb:s.testBit k with
   | false =>
    have HCH:Hid (∀ W,Calls Tryz.prog 98 #[.int .i64 s,.int .i64 k] W fun e w'=>e=.returned (.bool false)/\w'=W):=ae fun W=>by have h:=HH.out k W;rw [hb] at h;exact h
    have HST:Hid (dW s ps (k+1)=dW s ps k):=ae (by rw [g_,if_neg (by rw [hb];simp)]);clear hb;go_wp2_with (with_reducible refine wpList_load_mid rfl 29 _ rfl b (o+k*3) rfl _ _ HRG.out Tryz.underlying29 rfl (by kernel_rfl) ?_);rw [<-HW5.out];refine (HCH.out _).mono ?_;rintro e w6 ⟨rfl,he6⟩;rw [he6];clear he6;go_wp2_with fail;go_roundg (n - (k+1))
    case measure=>omega
    case rel=>exact ⟨k+1,by omega,by go_num,Nat.le_refl _,ae (by rw [HST.out];exact HX.out.kept HK5.out),ae (HKr.out.trans HK5.out)⟩
   | true =>
    have HCH:Hid (∀ W,Calls Tryz.prog 98 #[.int .i64 s,.int .i64 k] W fun e w'=>e=.returned (.bool true)/\w'=W):=ae fun W=>by have h:=HH.out k W;rw [hb] at h;exact h
    have HML:Hid (∀ W u1 u2,RatAt W u1 (ah (dW s ps k))->RatAt W u2 x->Calls Tryz.prog 97 #[u1,u2] W fun e w'=>(∃ v',e=.returned v'/\RatAt w' v' (ah (dW s ps (k+1))))/\af W w'):=ae fun W u1 u2 k1 k2=>by
     rw [g_,if_pos hb,<-HXX.out];have h:=iX _ _ _ _ W k1 k2 ⟨Nat.le_trans HSK.out.1 (by omega),Nat.le_trans HSK.out.2 (by omega)⟩ ⟨Nat.le_trans HX3.out.1 (by omega),Nat.le_trans HX3.out.2 (by omega)⟩;rw [al] at h;exact h
    clear hb;obtain ⟨p1,p2,p3,e1,e2,e3,e4,x0,x1,x2,hlx,HXA⟩:=(HX.out.kept HK5.out).read;go_wp2_with (with_reducible refine wpList_load_mid rfl 29 _ rfl b (o+k*3) rfl _ _ HRG.out Tryz.underlying29 rfl (by kernel_rfl) ?_);rw [<-HW5.out];refine (HCH.out _).mono ?_;rintro e w6 ⟨rfl,he6⟩;rw [he6];clear he6;go_wp2_with fail;refine (HML.out _ _ _ HXA.out HQ5.out).mono ?_;rintro e w7 ⟨⟨v7,rfl,hv7⟩,hk7⟩;have hk57:=HK5.out.trans hk7;obtain ⟨n8,l8,m8,a8,c8,b8,d8,w8,rfl,hw8,⟨⟨z0,j0⟩,⟨z1,j1⟩,⟨z2,j2⟩⟩,⟨f0,f1,f2⟩,hl8,_,_,HX8,HKP⟩:=(HX.out.kept hk57).save hv7;have HKE:=ae (HKP.out _ (HKr.out.trans hk57) (Nat.le_refl _));have HW8:=ae hw8;clear hv7 hk7 hk57 hw8 HKP x0 x1 x2 hlx q0 q1 q2;go_wp2_with fail;rw [<-HW8.out];go_roundg (n - (k+1))
    case measure=>omega
    case rel=>exact ⟨k+1,by omega,by go_num,Nat.le_refl _,HX8,HKE⟩
  ·have hke:k=n:=by omega
   have hkn:¬ (k:Int)<(n:Int):=by omega
   have HX2:Hid (RatCell wr w3.heap.size R):=ae (by rw [HRR.out,<-hke];exact HX.out);obtain ⟨p1,p2,p3,e1,e2,e3,e4,x0,x1,x2,hlx,HXA⟩:=HX2.out.read;obtain ⟨n8,l8,m8,a8,c8,b8,d8,w8,he,hw8,⟨⟨z0,j0⟩,⟨z1,j1⟩,⟨z2,j2⟩⟩,⟨f0,f1,f2⟩,hl8,Y,HRV,_,HKP⟩:=(HZ3.out.kept HKr.out).save HXA.out;have HKE:=ae (HKP.out _ (HK3.out.trans HKr.out) (Nat.le_refl _));simp only [Value.agg.injEq,Array.mk.injEq,List.cons.injEq,Value.bool.injEq,Value.slice.injEq,and_true] at he;obtain ⟨rfl,⟨rfl,rfl,rfl⟩,rfl,rfl,rfl⟩:=he;rw [hw8] at Y HRV HKE;clear hw8 HKP hke;go_wp2;refine bodyPost_ret (v:=.agg #[.bool p1,.slice e1 p2 e2,.slice e3 p3 e4]) ?_ rfl ⟨⟨_,rfl,HRV.out⟩,HKE.out⟩;simp [results,Tryz.results49,go_sem,Y.out.1,Y.out.2.1,Y.out.2.2]
theorem fb (a b:Rat):cO (a - b)<=0 ↔ a<=b:=by
 rw [vR];grind
theorem xx (a b:Rat):0<=cO (a - b) ↔ b<=a:=by
 rw [Cf];grind
theorem vI (r:Rw):mkRat (sg (ag r).1 (nv (ag r).2.1)) (nv (ag r).2.2)=aj r:=rfl
theorem jt (v:Value) (r:Rw) (w:World) (hv:RatAt w v r) (hs:r.Short 274877906944):Calls Tryz.prog 105 #[v] w fun e w'=>(∃ v',e=.returned v'/\RatAt w' v' (ah (aj r)))/\af w w':=by
 have HPA:=ae (fun W (hk:af w W)=>bH v r W (hv.kept hk) hs);have hok:=ay hv.ok;have hsh:=aB hs (by omega);obtain ⟨R,hR⟩:∃ R,R=ah (aj r):=⟨_,rfl⟩
 have HFO:Hid (∀ W u1 u2,WdsAt W u1 (ag r).2.1->WdsAt W u2 (ag r).2.2->Calls Tryz.prog 141 #[.bool (ag r).1,u1,u2] W fun e w'=>(∃ v,e=.returned v/\RatAt w' v R)/\af W w'):=ae fun W u1 u2 k1 k2=>by
  have h:=dJ (ag r).1 u1 u2 _ _ W k1 k2 hsh.1 hsh.2 hok.2.2.1;rw [bV _ _ _ hok.2.2.1,vI,<-hR] at h;exact h
 rw [<-hR];obtain ⟨u1,u2,rfl,h1,h2⟩:=hv;obtain ⟨a1,c1,rfl⟩:=h1.shape;obtain ⟨a2,c2,rfl⟩:=h2.shape;obtain ⟨w2,hw2⟩:∃ w2,w2=(w.alloc (.cells #[.bool r.neg,.slice a1 r.num.length c1,.slice a2 r.den.length c2] 29)).alloc (.cells #[.bool false,.slice none 0 0,.slice none 0 0] 29):=⟨_,rfl⟩;have HM:=ae (lv w (.cells #[.bool r.neg,.slice a1 r.num.length c1,.slice a2 r.den.length c2] 29));rw [<-hw2] at HM;have HW2:=ae hw2;generalize (ag r).1=s at *;generalize (ag r).2.1=N at *;generalize (ag r).2.2=D at *;generalize r.num.length=n1 at *;generalize r.den.length=n2 at *;generalize r.neg=neg at *;clear hok hsh hR h1 h2 hs hw2;go_enter Tryz.func105,Tryz.ntmps105;go_wp2_with fail;rw [<-HW2.out];refine (HPA.out _ HM.out.2.2).mono ?_;rintro e w3 ⟨⟨u3,u4,rfl,hu3,hu4⟩,hk3⟩;have H3:=ae hu3;have H4:=ae hu4;have HR3:=ae (HM.out.1.kept hk3);have HF3:=ae (HM.out.2.1.kept hk3);have HK3:=ae (HM.out.2.2.trans hk3);clear hu3 hu4 hk3;go_wp2_with fail;refine (HFO.out _ _ _ H3.out H4.out).mono ?_;rintro e w4 ⟨⟨v4,rfl,hv4⟩,hk4⟩;have HV4:=ae hv4;have hr4:=HR3.out.kept hk4;have HR4:=ae hr4;have HF4:=ae (HF3.out.kept hk4);have HK4:=ae (HK3.out.trans hk4);obtain ⟨u5,u6,rfl,k5,k6⟩:=hv4;obtain ⟨a5,c5,rfl⟩:=k5.shape;obtain ⟨a6,c6,rfl⟩:=k6.shape;obtain ⟨y0,y1,y2,hra⟩:=aL hr4 HF4.out k5 k6;have g0:=hr4.cell (i:=0) (by simp)
 have g1:=hr4.cell (i:=1) (by simp);have g2:=hr4.cell (i:=2) (by simp);have f0:=hr4.free 0;have f1:=hr4.free 1;have f2:=hr4.free 2;have HRA:=ae hra;have Y0:=ae y0;have Y1:=ae y1;have Y2:=ae y2;clear hra y0 y1 y2 k5 k6 hr4 hk4;generalize R.num.length=n5 at *;generalize R.den.length=n6 at *;go_wp2;refine bodyPost_ret (v:=.agg #[.bool R.neg,.slice a5 n5 c5,.slice a6 n6 c6]) ?_ rfl ⟨⟨_,rfl,HRA.out⟩,?_⟩
 ·simp [results,Tryz.results105,go_sem,Y0.out,Y1.out,Y2.out]
 ·exact ((HK4.out.store (by omega) _ _).store (by omega) _ _).store (by omega) _ _
theorem tK (va vb:Value) (r s:Rw) (w:World) (ha:RatAt w va r) (hb:RatAt w vb s) (hr:r.Short 68719476736) (hs:s.Short 68719476736):Calls Tryz.prog 59 #[va,vb] w fun e w'=>(∃ v',e=.returned v'/\RatAt w' v' (ah (kh (aj r) (aj s))))/\af w w':=by
 have HCM:=ae (fun W (hk:af w W)=>gA va vb r s W (ha.kept hk) (hb.kept hk) hr hs);have HSA:=ae (fun W (hk:af w W)=>jt va r W (ha.kept hk) ⟨Nat.le_trans hr.1 (by omega),Nat.le_trans hr.2 (by omega)⟩);have HSB:=ae (fun W (hk:af w W)=>jt vb s W (hb.kept hk) ⟨Nat.le_trans hs.1 (by omega),Nat.le_trans hs.2 (by omega)⟩);obtain ⟨R,hR⟩:∃ R,R=ah (kh (aj r) (aj s)):=⟨_,rfl⟩;rw [<-hR];have HRR:=ae hR;obtain ⟨S,hS⟩:∃ S,S=cO (aj r - aj s):=⟨_,rfl⟩;rw [<-hS] at HCM;have HSS:=ae hS;obtain ⟨u1,u2,rfl,h1,h2⟩:=ha;obtain ⟨u3,u4,rfl,h3,h4⟩:=hb;obtain ⟨a1,c1,rfl⟩:=h1.shape;obtain ⟨a2,c2,rfl⟩:=h2.shape;obtain ⟨a3,c3,rfl⟩:=h3.shape;obtain ⟨a4,c4,rfl⟩:=h4.shape;generalize r.num.length=n1 at *;generalize r.den.length=n2 at *;generalize s.num.length=n3 at *;generalize s.den.length=n4 at *;generalize r.neg=neg1 at *;generalize s.neg=neg2 at *;obtain ⟨w2,hw2⟩:∃ w2,w2=((w.alloc (.cells #[.bool neg1,.slice a1 n1 c1,.slice a2 n2 c2] 29)).alloc (.cells #[.bool neg2,.slice a3 n3 c3,.slice a4 n4 c4] 29)).alloc (.cells #[.bool false,.slice none 0 0,.slice none 0 0] 29):=⟨_,rfl⟩;have HM:=ae (cw w (.cells #[.bool neg1,.slice a1 n1 c1,.slice a2 n2 c2] 29) (.cells #[.bool neg2,.slice a3 n3 c3,.slice a4 n4 c4] 29));rw [<-hw2] at HM;have ha2:=ai.made w #[.bool neg1,.slice a1 n1 c1,.slice a2 n2 c2] 29;have HA2:Hid (ai w2 w.heap.size 29 [.bool neg1,.slice a1 n1 c1,.slice a2 n2 c2]):=ae (by rw [hw2];exact ha2.kept (((af.refl _).alloc _).alloc _))
 have hb2:=ai.made (w.alloc (.cells #[.bool neg1,.slice a1 n1 c1,.slice a2 n2 c2] 29)) #[.bool neg2,.slice a3 n3 c3,.slice a4 n4 c4] 29;simp only [World.size_alloc] at hb2;have HB2:Hid (ai w2 (w.heap.size+1) 29 [.bool neg2,.slice a3 n3 c3,.slice a4 n4 c4]):=ae (by rw [hw2];exact hb2.kept ((af.refl _).alloc _));have HW2:=ae hw2;have p0:=HA2.out.cell (i:=0) (by simp);have p1:=HA2.out.cell (i:=1) (by simp);have p2:=HA2.out.cell (i:=2) (by simp);have g0:=HB2.out.cell (i:=0) (by simp);have g1:=HB2.out.cell (i:=1) (by simp);have g2:=HB2.out.cell (i:=2) (by simp);simp only [List.getElem_cons_succ,List.getElem_cons_zero] at p0 p1 p2 g0 g1 g2;clear hR hS h1 h2 h3 h4 hr hs hw2 ha2 hb2;by_cases hc:S<=0
 ·have HE:Hid (R=ah (aj r)):=ae (by rw [HRR.out,kh,if_pos ((fb _ _).1 (by rw [<-HSS.out];exact hc))]);have HSA2:Hid (∀ W,af w W->Calls Tryz.prog 105 #[.agg #[.bool neg1,.slice a1 n1 c1,.slice a2 n2 c2]] W fun e w'=>(∃ v',e=.returned v'/\RatAt w' v' R)/\af W w'):=ae (by rw [HE.out];exact HSA.out);have dc:decide (S<=0)=true:=by simp;omega
  go_enter Tryz.func59,Tryz.ntmps59;go_wp2_with fail;rw [<-HW2.out];refine (HCM.out _ HM.out.2.2).mono ?_;rintro e w3 ⟨rfl,hk3⟩;have x0:=hk3.cell p0;have x1:=hk3.cell p1;have x2:=hk3.cell p2;have HR3:=ae (HM.out.1.kept hk3);have HF3:=ae (HM.out.2.1.kept hk3);have HK3:=ae (HM.out.2.2.trans hk3);clear hk3;go_wp2_with fail;refine (HSA2.out _ HK3.out).mono ?_;rintro e w4 ⟨⟨v4,rfl,hv4⟩,hk4⟩;have hr4:=HR3.out.kept hk4;have HF4:=ae (HF3.out.kept hk4);have HK4:=ae (HK3.out.trans hk4);obtain ⟨u5,u6,rfl,k5,k6⟩:=hv4;obtain ⟨a5,c5,rfl⟩:=k5.shape;obtain ⟨a6,c6,rfl⟩:=k6.shape;obtain ⟨y0,y1,y2,hra⟩:=aL hr4 HF4.out k5 k6;have g0:=hr4.cell (i:=0) (by simp);have g1:=hr4.cell (i:=1) (by simp);have g2:=hr4.cell (i:=2) (by simp);have f0:=hr4.free 0;have f1:=hr4.free 1;have f2:=hr4.free 2;have HRA:=ae hra;have Y0:=ae y0;have Y1:=ae y1;have Y2:=ae y2;clear hra y0 y1 y2 k5 k6 hr4 hk4;generalize R.num.length=n5 at *;generalize R.den.length=n6 at *;go_wp2;refine bodyPost_ret (v:=.agg #[.bool R.neg,.slice a5 n5 c5,.slice a6 n6 c6]) ?_ rfl ⟨⟨_,rfl,HRA.out⟩,?_⟩
  ·simp [results,Tryz.results59,go_sem,Y0.out,Y1.out,Y2.out]
  ·exact ((HK4.out.store (by omega) _ _).store (by omega) _ _).store (by omega) _ _
 ·have HE:Hid (R=ah (aj s)):=ae (by rw [HRR.out,kh,if_neg (fun h=>hc (by have:=(fb _ _).2 h;rw [<-HSS.out] at this;exact this))]);have HSA2:Hid (∀ W,af w W->Calls Tryz.prog 105 #[.agg #[.bool neg2,.slice a3 n3 c3,.slice a4 n4 c4]] W fun e w'=>(∃ v',e=.returned v'/\RatAt w' v' R)/\af W w'):=ae (by rw [HE.out];exact HSB.out);have dc:decide (S<=0)=false:=by simp;omega
  go_enter Tryz.func59,Tryz.ntmps59;go_wp2_with fail;rw [<-HW2.out];refine (HCM.out _ HM.out.2.2).mono ?_;rintro e w3 ⟨rfl,hk3⟩;have x0:=hk3.cell g0;have x1:=hk3.cell g1;have x2:=hk3.cell g2;have HR3:=ae (HM.out.1.kept hk3);have HF3:=ae (HM.out.2.1.kept hk3);have HK3:=ae (HM.out.2.2.trans hk3);clear hk3;go_wp2_with fail;refine (HSA2.out _ HK3.out).mono ?_;rintro e w4 ⟨⟨v4,rfl,hv4⟩,hk4⟩;have hr4:=HR3.out.kept hk4;have HF4:=ae (HF3.out.kept hk4);have HK4:=ae (HK3.out.trans hk4);obtain ⟨u5,u6,rfl,k5,k6⟩:=hv4;obtain ⟨a5,c5,rfl⟩:=k5.shape;obtain ⟨a6,c6,rfl⟩:=k6.shape;obtain ⟨y0,y1,y2,hra⟩:=aL hr4 HF4.out k5 k6;have g0:=hr4.cell (i:=0) (by simp);have g1:=hr4.cell (i:=1) (by simp);have g2:=hr4.cell (i:=2) (by simp);have f0:=hr4.free 0;have f1:=hr4.free 1;have f2:=hr4.free 2;have HRA:=ae hra;have Y0:=ae y0;have Y1:=ae y1;have Y2:=ae y2;clear hra y0 y1 y2 k5 k6 hr4 hk4;generalize R.num.length=n5 at *;generalize R.den.length=n6 at *;go_wp2;refine bodyPost_ret (v:=.agg #[.bool R.neg,.slice a5 n5 c5,.slice a6 n6 c6]) ?_ rfl ⟨⟨_,rfl,HRA.out⟩,?_⟩
  ·simp [results,Tryz.results59,go_sem,Y0.out,Y1.out,Y2.out]
  ·exact ((HK4.out.store (by omega) _ _).store (by omega) _ _).store (by omega) _ _
theorem oW (va vb:Value) (r s:Rw) (w:World) (ha:RatAt w va r) (hb:RatAt w vb s) (hr:r.Short 68719476736) (hs:s.Short 68719476736):Calls Tryz.prog 57 #[va,vb] w fun e w'=>(∃ v',e=.returned v'/\RatAt w' v' (ah (gw (aj r) (aj s))))/\af w w':=by
 have HCM:=ae (fun W (hk:af w W)=>gA va vb r s W (ha.kept hk) (hb.kept hk) hr hs);have HSA:=ae (fun W (hk:af w W)=>jt va r W (ha.kept hk) ⟨Nat.le_trans hr.1 (by omega),Nat.le_trans hr.2 (by omega)⟩);have HSB:=ae (fun W (hk:af w W)=>jt vb s W (hb.kept hk) ⟨Nat.le_trans hs.1 (by omega),Nat.le_trans hs.2 (by omega)⟩);obtain ⟨R,hR⟩:∃ R,R=ah (gw (aj r) (aj s)):=⟨_,rfl⟩;rw [<-hR];have HRR:=ae hR;obtain ⟨S,hS⟩:∃ S,S=cO (aj r - aj s):=⟨_,rfl⟩;rw [<-hS] at HCM;have HSS:=ae hS;obtain ⟨u1,u2,rfl,h1,h2⟩:=ha;obtain ⟨u3,u4,rfl,h3,h4⟩:=hb;obtain ⟨a1,c1,rfl⟩:=h1.shape;obtain ⟨a2,c2,rfl⟩:=h2.shape;obtain ⟨a3,c3,rfl⟩:=h3.shape;obtain ⟨a4,c4,rfl⟩:=h4.shape;generalize r.num.length=n1 at *;generalize r.den.length=n2 at *;generalize s.num.length=n3 at *;generalize s.den.length=n4 at *;generalize r.neg=neg1 at *;generalize s.neg=neg2 at *;obtain ⟨w2,hw2⟩:∃ w2,w2=((w.alloc (.cells #[.bool neg1,.slice a1 n1 c1,.slice a2 n2 c2] 29)).alloc (.cells #[.bool neg2,.slice a3 n3 c3,.slice a4 n4 c4] 29)).alloc (.cells #[.bool false,.slice none 0 0,.slice none 0 0] 29):=⟨_,rfl⟩;have HM:=ae (cw w (.cells #[.bool neg1,.slice a1 n1 c1,.slice a2 n2 c2] 29) (.cells #[.bool neg2,.slice a3 n3 c3,.slice a4 n4 c4] 29));rw [<-hw2] at HM;have ha2:=ai.made w #[.bool neg1,.slice a1 n1 c1,.slice a2 n2 c2] 29;have HA2:Hid (ai w2 w.heap.size 29 [.bool neg1,.slice a1 n1 c1,.slice a2 n2 c2]):=ae (by rw [hw2];exact ha2.kept (((af.refl _).alloc _).alloc _))
 have hb2:=ai.made (w.alloc (.cells #[.bool neg1,.slice a1 n1 c1,.slice a2 n2 c2] 29)) #[.bool neg2,.slice a3 n3 c3,.slice a4 n4 c4] 29;simp only [World.size_alloc] at hb2;have HB2:Hid (ai w2 (w.heap.size+1) 29 [.bool neg2,.slice a3 n3 c3,.slice a4 n4 c4]):=ae (by rw [hw2];exact hb2.kept ((af.refl _).alloc _));have HW2:=ae hw2;have p0:=HA2.out.cell (i:=0) (by simp);have p1:=HA2.out.cell (i:=1) (by simp);have p2:=HA2.out.cell (i:=2) (by simp);have g0:=HB2.out.cell (i:=0) (by simp);have g1:=HB2.out.cell (i:=1) (by simp);have g2:=HB2.out.cell (i:=2) (by simp);simp only [List.getElem_cons_succ,List.getElem_cons_zero] at p0 p1 p2 g0 g1 g2;clear hR hS h1 h2 h3 h4 hr hs hw2 ha2 hb2;by_cases hc:0<=S
 ·have HE:Hid (R=ah (aj r)):=ae (by rw [HRR.out,gw,if_pos ((xx _ _).1 (by rw [<-HSS.out];exact hc))]);have HSA2:Hid (∀ W,af w W->Calls Tryz.prog 105 #[.agg #[.bool neg1,.slice a1 n1 c1,.slice a2 n2 c2]] W fun e w'=>(∃ v',e=.returned v'/\RatAt w' v' R)/\af W w'):=ae (by rw [HE.out];exact HSA.out);have dc:decide (S ≥ 0)=true:=by simp;omega
  go_enter Tryz.func57,Tryz.ntmps57;go_wp2_with fail;rw [<-HW2.out];refine (HCM.out _ HM.out.2.2).mono ?_;rintro e w3 ⟨rfl,hk3⟩;have x0:=hk3.cell p0;have x1:=hk3.cell p1;have x2:=hk3.cell p2;have HR3:=ae (HM.out.1.kept hk3);have HF3:=ae (HM.out.2.1.kept hk3);have HK3:=ae (HM.out.2.2.trans hk3);clear hk3;go_wp2_with fail;refine (HSA2.out _ HK3.out).mono ?_;rintro e w4 ⟨⟨v4,rfl,hv4⟩,hk4⟩;have hr4:=HR3.out.kept hk4;have HF4:=ae (HF3.out.kept hk4);have HK4:=ae (HK3.out.trans hk4);obtain ⟨u5,u6,rfl,k5,k6⟩:=hv4;obtain ⟨a5,c5,rfl⟩:=k5.shape;obtain ⟨a6,c6,rfl⟩:=k6.shape;obtain ⟨y0,y1,y2,hra⟩:=aL hr4 HF4.out k5 k6;have g0:=hr4.cell (i:=0) (by simp);have g1:=hr4.cell (i:=1) (by simp);have g2:=hr4.cell (i:=2) (by simp);have f0:=hr4.free 0;have f1:=hr4.free 1;have f2:=hr4.free 2;have HRA:=ae hra;have Y0:=ae y0;have Y1:=ae y1;have Y2:=ae y2;clear hra y0 y1 y2 k5 k6 hr4 hk4;generalize R.num.length=n5 at *;generalize R.den.length=n6 at *;go_wp2;refine bodyPost_ret (v:=.agg #[.bool R.neg,.slice a5 n5 c5,.slice a6 n6 c6]) ?_ rfl ⟨⟨_,rfl,HRA.out⟩,?_⟩
  ·simp [results,Tryz.results57,go_sem,Y0.out,Y1.out,Y2.out]
  ·exact ((HK4.out.store (by omega) _ _).store (by omega) _ _).store (by omega) _ _
 ·have HE:Hid (R=ah (aj s)):=ae (by rw [HRR.out,gw,if_neg (fun h=>hc (by have:=(xx _ _).2 h;rw [<-HSS.out] at this;exact this))]);have HSA2:Hid (∀ W,af w W->Calls Tryz.prog 105 #[.agg #[.bool neg2,.slice a3 n3 c3,.slice a4 n4 c4]] W fun e w'=>(∃ v',e=.returned v'/\RatAt w' v' R)/\af W w'):=ae (by rw [HE.out];exact HSB.out);have dc:decide (S ≥ 0)=false:=by simp;omega
  go_enter Tryz.func57,Tryz.ntmps57;go_wp2_with fail;rw [<-HW2.out];refine (HCM.out _ HM.out.2.2).mono ?_;rintro e w3 ⟨rfl,hk3⟩;have x0:=hk3.cell g0;have x1:=hk3.cell g1;have x2:=hk3.cell g2;have HR3:=ae (HM.out.1.kept hk3);have HF3:=ae (HM.out.2.1.kept hk3);have HK3:=ae (HM.out.2.2.trans hk3);clear hk3;go_wp2_with fail;refine (HSA2.out _ HK3.out).mono ?_;rintro e w4 ⟨⟨v4,rfl,hv4⟩,hk4⟩;have hr4:=HR3.out.kept hk4;have HF4:=ae (HF3.out.kept hk4);have HK4:=ae (HK3.out.trans hk4);obtain ⟨u5,u6,rfl,k5,k6⟩:=hv4;obtain ⟨a5,c5,rfl⟩:=k5.shape;obtain ⟨a6,c6,rfl⟩:=k6.shape;obtain ⟨y0,y1,y2,hra⟩:=aL hr4 HF4.out k5 k6;have g0:=hr4.cell (i:=0) (by simp);have g1:=hr4.cell (i:=1) (by simp);have g2:=hr4.cell (i:=2) (by simp);have f0:=hr4.free 0;have f1:=hr4.free 1;have f2:=hr4.free 2;have HRA:=ae hra;have Y0:=ae y0;have Y1:=ae y1;have Y2:=ae y2;clear hra y0 y1 y2 k5 k6 hr4 hk4;generalize R.num.length=n5 at *;generalize R.den.length=n6 at *;go_wp2;refine bodyPost_ret (v:=.agg #[.bool R.neg,.slice a5 n5 c5,.slice a6 n6 c6]) ?_ rfl ⟨⟨_,rfl,HRA.out⟩,?_⟩
  ·simp [results,Tryz.results57,go_sem,Y0.out,Y1.out,Y2.out]
  ·exact ((HK4.out.store (by omega) _ _).store (by omega) _ _).store (by omega) _ _
theorem qb {f:Nat->Rat} {l:List Nat} (h:∀ s∈l,(ah (f s)).Short 91):∀ k,k<=l.length->(ah (aC f (l.take k))).Short 91:=sA (by decide) h
theorem esnone_any (g:Nat) (eg:∀ args w,(callFunc g args).run Tryz.prog w=.ok (.enter g args) w) (f:Nat->Rat) (ss:List Nat) (xv v:Value) (w:World) (hx:am w xv (aO ss)) (hl:ss.length<=1024) (hs:∀ s∈ss,(ah (f s)).Short 91)
  (hch:∀ s∈ss,∀ W,af w W->Calls Tryz.prog g #[.int .i64 s,v] W fun e w'=>(∃ v',e=.returned v'/\RatAt w' v' (ah (f s)))/\af W w') :
  Calls Tryz.prog 48 #[xv,v,.func (.func g) #[] #[]] w fun e w'=>(∃ v',e=.returned v'/\RatAt w' v' (ah (aP f ss)))/\af w w':=by
 have HOF:Hid (∀ W,Calls Tryz.prog 96 #[.int .i64 1] W fun e w'=>(∃ v',e=.returned v'/\RatAt w' v' (ah (aP f (ss.take 0))))/\af W w'):=ae fun W=>nF 1 W (by omega) (by omega)
 have HSH:=ae (fun k hk=>oA (by decide) hs k hk);have HF:=ae hx;have HCH:=ae hch;have HS91:=ae hs;obtain ⟨xa,xn,xc,rfl⟩:=hx.shape;obtain ⟨n,hn⟩:∃ n,n=ss.length:=⟨_,rfl⟩
 have hxn:xn=n:=by
  obtain ⟨_,_,e,_⟩:=hx;injection e with _ e2 _
  rw [e2,hn];simp [aO]
 subst hxn;rw [<-hn] at hl;have HN:=ae hn;obtain ⟨R,hR⟩:∃ R,R=ah (aP f ss):=⟨_,rfl⟩;rw [<-hR];have HRR:=ae hR;clear hR hn hx hs hch;obtain ⟨w2,hw2⟩:∃ w2,w2=w.alloc (.cells #[.bool false,.slice none 0 0,.slice none 0 0] 29):=⟨_,rfl⟩;have HZ:Hid (RatCell w2 w.heap.size ⟨false,[],[]⟩):=ae (by rw [hw2];exact RatCell.zero w);have HK0:Hid (af w w2):=ae (by rw [hw2];exact (af.refl w).alloc _);have HW2:=ae hw2;clear hw2;go_enter Tryz.func48,Tryz.ntmps48;go_wp2_with fail;rw [<-HW2.out];refine (HOF.out _).mono ?_;rintro e w3 ⟨⟨v3,rfl,hv3⟩,hk3⟩;have HZ3:=ae (HZ.out.kept hk3);have HK3:=ae (HK0.out.trans hk3);obtain ⟨n3,l3,m3,a3,c3,b3,d3,w4,rfl,hw4,hc4,hk4,_,_⟩:=hv3.box;have HW4:=ae hw4;have HC:=ae hc4;have HK4:=ae hk4;clear hv3 hk3 hw4 hc4 hk4;go_wp2_with fail;rw [<-HW4.out];go_loopg [13] xn (fun kx s10 wr=>∃ k:Nat,k<=xn/\s10=.int .i64 k/\xn - k<=kx/\Hid (RatCell wr w3.heap.size (ah (aP f (ss.take k))))/\Hid (af w3 wr))
 case atStart=>exact ⟨0,Nat.zero_le _,rfl,by omega,HC,HK4⟩
 case round =>
  obtain ⟨k,hk,rfl,hkx,HX,HKr⟩:=hrel;by_cases hlt:k<xn
  ·have hkn:(k:Int)<(xn:Int):=by omega
   have hkl:k<ss.length:=by have:=HN.out;omega
   have HKw:=ae (HK3.out.trans HKr.out);obtain ⟨b,o,rfl,hce⟩:=HF.out.get k (by simpa [aO] using hkl);have hsk:=HSH.out k (by omega);have hst:=oz f ss hkl;obtain ⟨s,hsx⟩:∃ s,s=ss[k]:=⟨_,rfl⟩;have eo:(aO ss)[k]'(by simpa [aO] using hkl)=(s:Int):=by rw [hsx];simp [aO]
   rw [eo] at hce;rw [<-hsx] at hst;have hcr:=HKw.out.cell hce;have HC1:Hid (∀ W,af w W->Calls Tryz.prog g #[.int .i64 s,v] W fun e w'=>(∃ v',e=.returned v'/\RatAt w' v' (ah (f s)))/\af W w'):=ae (HCH.out s (by rw [hsx];exact List.getElem_mem _));have h91:=HS91.out s (by rw [hsx];exact List.getElem_mem _)
   have HNT:Hid (∀ W u,RatAt W u (ah (f s))->Calls Tryz.prog 47 #[u] W fun e w'=>(∃ v',e=.returned v'/\RatAt w' v' (ah (1 - f s)))/\af W w'):=ae fun W u k1=>by
    have h:=fd u _ W k1 ⟨Nat.le_trans h91.1 (by omega),Nat.le_trans h91.2 (by omega)⟩;rw [al] at h;exact h
   have HML:Hid (∀ W u1 u2,RatAt W u1 (ah (aP f (ss.take k)))->RatAt W u2 (ah (1 - f s))->Calls Tryz.prog 97 #[u1,u2] W fun e w'=>(∃ v',e=.returned v'/\RatAt w' v' (ah (aP f (ss.take (k+1)))))/\af W w'):=ae fun W u1 u2 k1 k2=>by
    have h2:=df h91 (by decide);have h:=iX u1 u2 _ _ W k1 k2 ⟨Nat.le_trans hsk.1 (by omega),Nat.le_trans hsk.2 (by omega)⟩ ⟨Nat.le_trans h2.1 (by omega),Nat.le_trans h2.2 (by omega)⟩;rw [al,al,<-hst] at h;exact h
   obtain ⟨p1,p2,p3,e1,e2,e3,e4,x0,x1,x2,hlx,HXA⟩:=HX.out.read;clear hce hsk hst hsx h91 eo hkl;go_wp2_with fail
   go_region_with (first
    | (go_at_fn g;(with_reducible refine (HC1.out _ HKw.out.drew).mono ?_);rintro e w5 ⟨⟨v5,rfl,hv5⟩,hk5⟩;have hk15:=(af.refl _).drew.trans hk5;have HV5:=ae hv5;have HX5:=ae (HX.out.kept hk15);have HA5:=ae (HXA.out.kept hk15);have q0:=hk15.cell x0;have q1:=hk15.cell x1;have q2:=hk15.cell x2;have HK5:=ae (HKr.out.trans hk15);clear hv5 hk5 hk15)
    | (go_at_call 47;(with_reducible refine (HNT.out _ _ HV5.out).mono ?_);rintro e w6 ⟨⟨v6,rfl,hv6⟩,hk6⟩;have HV6:=ae hv6;have HX6:=ae (HX5.out.kept hk6);have HA6:=ae (HA5.out.kept hk6);have r0:=hk6.cell q0;have r1:=hk6.cell q1;have r2:=hk6.cell q2;have HK6:=ae (HK5.out.trans hk6);clear hv6 hk6)
    | (go_at_call 97;(with_reducible refine (HML.out _ _ _ HA6.out HV6.out).mono ?_);rintro e w7 ⟨⟨v7,rfl,hv7⟩,hk7⟩;obtain ⟨n8,l8,m8,a8,c8,b8,d8,w8,rfl,hw8,⟨⟨z0,j0⟩,⟨z1,j1⟩,⟨z2,j2⟩⟩,⟨f0,f1,f2⟩,hl8,_,_,HX8,HKP⟩:=(HX6.out.kept hk7).save hv7;have HKE:=ae (HKP.out _ (HK6.out.trans hk7) (Nat.le_refl _));have HW8:=ae hw8;clear hv7 hk7 hw8 HKP))
   all_goals
    rw [<-HW8.out];go_wp2_with fail;go_roundg (xn - (k+1))
    case measure=>omega
    case rel=>exact ⟨k+1,by omega,by go_num,Nat.le_refl _,HX8,HKE⟩
  ·have hke:k=xn:=by omega
   have hkn:¬ (k:Int)<(xn:Int):=by omega
   have HX2:Hid (RatCell wr w3.heap.size R):=ae (by
    have h:=HX.out;rw [List.take_of_length_le (by have:=HN.out;omega),<-HRR.out] at h;exact h)
   obtain ⟨p1,p2,p3,e1,e2,e3,e4,x0,x1,x2,hlx,HXA⟩:=HX2.out.read;obtain ⟨n8,l8,m8,a8,c8,b8,d8,w8,he,hw8,⟨⟨z0,j0⟩,⟨z1,j1⟩,⟨z2,j2⟩⟩,⟨f0,f1,f2⟩,hl8,Y,HRV,_,HKP⟩:=(HZ3.out.kept HKr.out).save HXA.out;have HKE:=ae (HKP.out _ (HK3.out.trans HKr.out) (Nat.le_refl _));simp only [Value.agg.injEq,Array.mk.injEq,List.cons.injEq,Value.bool.injEq,Value.slice.injEq,and_true] at he;obtain ⟨rfl,⟨rfl,rfl,rfl⟩,rfl,rfl,rfl⟩:=he;rw [hw8] at Y HRV HKE;clear hw8 HKP hke;go_wp2;refine bodyPost_ret (v:=.agg #[.bool p1,.slice e1 p2 e2,.slice e3 p3 e4]) ?_ rfl ⟨⟨_,rfl,HRV.out⟩,HKE.out⟩;simp [results,Tryz.results48,go_sem,Y.out.1,Y.out.2.1,Y.out.2.2]
theorem esgreat_any (g:Nat) (eg:∀ args w,(callFunc g args).run Tryz.prog w=.ok (.enter g args) w) (f:Nat->Rat) (ss:List Nat) (xv v:Value) (w:World) (hx:am w xv (aO ss)) (hl:ss.length<=1024) (hs:∀ s∈ss,(ah (f s)).Short 91)
  (hch:∀ s∈ss,∀ W,af w W->Calls Tryz.prog g #[.int .i64 s,v] W fun e w'=>(∃ v',e=.returned v'/\RatAt w' v' (ah (f s)))/\af W w') :
  Calls Tryz.prog 58 #[xv,v,.func (.func g) #[] #[]] w fun e w'=>(∃ v',e=.returned v'/\RatAt w' v' (ah (aC f ss)))/\af w w':=by
 have HSH:=ae (fun k hk=>qb hs k hk);have HF:=ae hx;have HCH:=ae hch;have HS91:=ae hs;obtain ⟨xa,xn,xc,rfl⟩:=hx.shape;obtain ⟨n,hn⟩:∃ n,n=ss.length:=⟨_,rfl⟩
 have hxn:xn=n:=by
  obtain ⟨_,_,e,_⟩:=hx;injection e with _ e2 _
  rw [e2,hn];simp [aO]
 subst hxn;rw [<-hn] at hl;have HN:=ae hn;obtain ⟨R,hR⟩:∃ R,R=ah (aC f ss):=⟨_,rfl⟩;rw [<-hR];have HRR:=ae hR;clear hR hn hx hs hch;obtain ⟨w3,hw3⟩:∃ w3,w3=w.alloc (.cells #[.bool false,.slice none 0 0,.slice none 0 0] 29):=⟨_,rfl⟩;have HZ3:Hid (RatCell w3 w.heap.size ⟨false,[],[]⟩):=ae (by rw [hw3];exact RatCell.zero w);have HK3:Hid (af w w3):=ae (by rw [hw3];exact (af.refl w).alloc _);have hs3:w3.heap.size=w.heap.size+1:=by rw [hw3];simp
 obtain ⟨w4,hw4⟩:∃ w4,w4=w3.alloc (.cells #[.bool false,.slice none 0 0,.slice none 0 0] 29):=⟨_,rfl⟩;have HC:Hid (RatCell w4 (w.heap.size+1) (ah 0)):=ae (by rw [hw4,<-hs3];exact RatCell.zero w3);have HK4:Hid (af w3 w4):=ae (by rw [hw4];exact (af.refl w3).alloc _);have HW4:Hid (w4=(w.alloc (.cells #[.bool false,.slice none 0 0,.slice none 0 0] 29)).alloc (.cells #[.bool false,.slice none 0 0,.slice none 0 0] 29)):=ae (by rw [hw4,hw3]);have HS3:=ae hs3;clear hw3 hw4 hs3;go_enter Tryz.func58,Tryz.ntmps58;go_wp2_with fail;rw [<-HW4.out];go_loopg [12] xn (fun kx s10 wr=>∃ k:Nat,k<=xn/\s10=.int .i64 k/\xn - k<=kx/\Hid (RatCell wr (w.heap.size+1) (ah (aC f (ss.take k))))/\Hid (af w3 wr))
 case atStart=>exact ⟨0,Nat.zero_le _,rfl,by omega,HC,HK4⟩
 case round =>
  obtain ⟨k,hk,rfl,hkx,HX,HKr⟩:=hrel;by_cases hlt:k<xn
  ·have hkn:(k:Int)<(xn:Int):=by omega
   have hkl:k<ss.length:=by have:=HN.out;omega
   have HKw:=ae (HK3.out.trans HKr.out);obtain ⟨b,o,rfl,hce⟩:=HF.out.get k (by simpa [aO] using hkl);have hsk:=HSH.out k (by omega);have hst:=mJ f ss hkl;obtain ⟨s,hsx⟩:∃ s,s=ss[k]:=⟨_,rfl⟩;have eo:(aO ss)[k]'(by simpa [aO] using hkl)=(s:Int):=by rw [hsx];simp [aO]
   rw [eo] at hce;rw [<-hsx] at hst;have hcr:=HKw.out.cell hce;have HC1:Hid (∀ W,af w W->Calls Tryz.prog g #[.int .i64 s,v] W fun e w'=>(∃ v',e=.returned v'/\RatAt w' v' (ah (f s)))/\af W w'):=ae (HCH.out s (by rw [hsx];exact List.getElem_mem _));have h91:=HS91.out s (by rw [hsx];exact List.getElem_mem _)
   have HMX:Hid (∀ W u1 u2,RatAt W u1 (ah (aC f (ss.take k)))->RatAt W u2 (ah (f s))->Calls Tryz.prog 57 #[u1,u2] W fun e w'=>(∃ v',e=.returned v'/\RatAt w' v' (ah (aC f (ss.take (k+1)))))/\af W w'):=ae fun W u1 u2 k1 k2=>by
    have h:=oW u1 u2 _ _ W k1 k2 ⟨Nat.le_trans hsk.1 (by omega),Nat.le_trans hsk.2 (by omega)⟩ ⟨Nat.le_trans h91.1 (by omega),Nat.le_trans h91.2 (by omega)⟩;rw [al,al,<-hst] at h;exact h
   obtain ⟨p1,p2,p3,e1,e2,e3,e4,x0,x1,x2,hlx,HXA⟩:=HX.out.read;clear hce hsk hst hsx h91 eo hkl;go_wp2_with fail
   go_region_with (first
    | (go_at_fn g;(with_reducible refine (HC1.out _ HKw.out.drew).mono ?_);rintro e w5 ⟨⟨v5,rfl,hv5⟩,hk5⟩;have hk15:=(af.refl _).drew.trans hk5;have HV5:=ae hv5;have HX5:=ae (HX.out.kept hk15);have HA5:=ae (HXA.out.kept hk15);have q0:=hk15.cell x0;have q1:=hk15.cell x1;have q2:=hk15.cell x2;have HK5:=ae (HKr.out.trans hk15);clear hv5 hk5 hk15)
    | (go_at_call 57;(with_reducible refine (HMX.out _ _ _ HA5.out HV5.out).mono ?_);rintro e w7 ⟨⟨v7,rfl,hv7⟩,hk7⟩;obtain ⟨n8,l8,m8,a8,c8,b8,d8,w8,rfl,hw8,⟨⟨z0,j0⟩,⟨z1,j1⟩,⟨z2,j2⟩⟩,⟨f0,f1,f2⟩,hl8,_,_,HX8,HKP⟩:=(HX5.out.kept hk7).save hv7;have HKE:=ae (HKP.out _ (HK5.out.trans hk7) (by first | exact Nat.le_refl _ | (rw [HS3.out];exact Nat.le_refl _)));have HW8:=ae hw8;clear hv7 hk7 hw8 HKP))
   all_goals
    rw [<-HW8.out];go_wp2_with fail;go_roundg (xn - (k+1))
    case measure=>omega
    case rel=>exact ⟨k+1,by omega,by go_num,Nat.le_refl _,HX8,HKE⟩
  ·have hke:k=xn:=by omega
   have hkn:¬ (k:Int)<(xn:Int):=by omega
   have HX2:Hid (RatCell wr (w.heap.size+1) R):=ae (by
    have h:=HX.out;rw [List.take_of_length_le (by have:=HN.out;omega),<-HRR.out] at h;exact h)
   obtain ⟨p1,p2,p3,e1,e2,e3,e4,x0,x1,x2,hlx,HXA⟩:=HX2.out.read;obtain ⟨n8,l8,m8,a8,c8,b8,d8,w8,he,hw8,⟨⟨z0,j0⟩,⟨z1,j1⟩,⟨z2,j2⟩⟩,⟨f0,f1,f2⟩,hl8,Y,HRV,_,HKP⟩:=(HZ3.out.kept HKr.out).save HXA.out;have HKE:=ae (HKP.out _ (HK3.out.trans HKr.out) (Nat.le_refl _));simp only [Value.agg.injEq,Array.mk.injEq,List.cons.injEq,Value.bool.injEq,Value.slice.injEq,and_true] at he;obtain ⟨rfl,⟨rfl,rfl,rfl⟩,rfl,rfl,rfl⟩:=he;rw [hw8] at Y HRV HKE;clear hw8 HKP hke;go_wp2;refine bodyPost_ret (v:=.agg #[.bool p1,.slice e1 p2 e2,.slice e3 p3 e4]) ?_ rfl ⟨⟨_,rfl,HRV.out⟩,HKE.out⟩;simp [results,Tryz.results58,go_sem,Y.out.1,Y.out.2.1,Y.out.2.2]
theorem iK (s:Nat) (v:Value) (ps:List Rw) (w:World) (hs:s<16777216) (hv:RatsAt w v ps) (hp3:∀ r∈ps,r.Short 3) (hp30:ps.length<=30) (hb:bI ps=false) :
  Calls Tryz.prog 54 #[.int .i64 s,v] w fun e w'=>(∃ v',e=.returned v'/\RatAt w' v' (ah (gQ ps s)))/\af w w':=by
 have HFA:Hid (∀ W u,RatsAt W u (ie ps)->Calls Tryz.prog 49 #[.int .i64 s,u] W fun e w'=>(∃ v',e=.returned v'/\RatAt w' v' (ah (gQ ps s)))/\af W w'):=ae fun W u hu =>
  fS s u (ie ps) W hs hu (qM hv.ok hb hp3 (by decide)) (by rw [lD];exact hp30)
 have HV:=ae hv;have HP3:=ae hp3;obtain ⟨a,c,rfl⟩:=hv.shape;obtain ⟨n,hn⟩:∃ n,n=ps.length:=⟨_,rfl⟩;rw [<-hn] at HV hp30⊢;have HN:=ae hn;obtain ⟨R,hR⟩:∃ R,R=ah (gQ ps s):=⟨_,rfl⟩;rw [<-hR] at HFA⊢;obtain ⟨w2,hw2⟩:∃ w2,w2=w.alloc (.cells #[.bool false,.slice none 0 0,.slice none 0 0] 29):=⟨_,rfl⟩;have HZ:Hid (RatCell w2 w.heap.size ⟨false,[],[]⟩):=ae (by rw [hw2];exact RatCell.zero w);have HK0:Hid (af w w2):=ae (by rw [hw2];exact (af.refl w).alloc _);have HW2:=ae hw2;clear hn hv hp3 hs hw2 hR hb;go_enter Tryz.func54,Tryz.ntmps54;go_wp2_with fail;rw [<-HW2.out];go_loopg [5,10] n (fun kx s5 s10 wr=>∃ k:Nat,k<=n/\s10=.int .i64 k/\n - k<=kx/\Hid (bU wr w2.heap.size s5 ((ie ps).take k))/\Hid (af w2 wr))
 case atStart=>exact ⟨0,Nat.zero_le _,rfl,by omega,ae (bU.nil _ _),ae (af.refl _)⟩
 case round =>
  obtain ⟨k,hk,rfl,hkx,HO,HKr⟩:=hrel;have HKw:=ae (HK0.out.trans HKr.out);by_cases hlt:k<n
  ·have hkn:(k:Int)<(n:Int):=by omega
   have hkl:k<ps.length:=by have:=HN.out;omega
   obtain ⟨b,o,u1,u2,rfl,hrg,hw1,hw2⟩:=HV.out.get k hkl;obtain ⟨a6,c6,rfl⟩:=hw1.shape;obtain ⟨a7,c7,rfl⟩:=hw2.shape;have hrg2:=cJ hrg HKw.out;have hq:RatAt wr (.agg #[.bool (ps.getD k default).neg,.slice a6 (ps.getD k default).num.length c6,.slice a7 (ps.getD k default).den.length c7]) (ps.getD k default):=⟨_,_,rfl,hw1.kept HKw.out,hw2.kept HKw.out⟩
   have hx3:(ps.getD k default).Short 3:=by
    have e:ps.getD k default=ps[k]:=by simp [List.getD_eq_getElem?_getD,hkl]
    rw [e];exact HP3.out _ (List.getElem_mem _)
   have HTK:=ae (CH ps hkl);obtain ⟨x,hxx⟩:∃ x,x=ps.getD k default:=⟨_,rfl⟩;rw [<-hxx] at hrg2 hq hx3 HTK;have HNT:Hid (∀ W u,RatAt W u x->Calls Tryz.prog 47 #[u] W fun e w'=>(∃ v',e=.returned v'/\RatAt w' v' (ah (1 - aj x)))/\af W w'):=ae fun W u k1=>fd u x W k1 ⟨Nat.le_trans hx3.1 (by omega),Nat.le_trans hx3.2 (by omega)⟩
   obtain ⟨w5,hw5⟩:∃ w5,w5=wr.alloc (.cells #[.bool x.neg,.slice a6 x.num.length c6,.slice a7 x.den.length c7] 29):=⟨_,rfl⟩;have hr5:=ai.made wr #[.bool x.neg,.slice a6 x.num.length c6,.slice a7 x.den.length c7] 29;rw [<-hw5] at hr5;have hk5:af wr w5:=by rw [hw5];exact (af.refl _).alloc _
   have q0:=hr5.cell (i:=0) (by simp);have q1:=hr5.cell (i:=1) (by simp);have q2:=hr5.cell (i:=2) (by simp);simp only [List.getElem_cons_succ,List.getElem_cons_zero] at q0 q1 q2;have HQ5:=ae (hq.kept hk5);obtain ⟨Y,hY⟩:∃ Y,Y=ah (1 - aj x):=⟨_,rfl⟩;rw [<-hY] at HNT HTK;generalize x.neg=y0 at *;generalize x.num.length=y1 at *;generalize x.den.length=y2 at *;have HRG:Hid (wr.rangeAt b (o+k*3) [.bool y0,.slice a6 y1 c6,.slice a7 y2 c7]):=ae hrg2;have HK5:=ae hk5;have HW5:=ae hw5;have hlen:((ie ps).take k).length<=30:=by rw [List.length_take];omega
   have HLEN:=ae hlen;clear hrg hrg2 hw1 hw2 hq hx3 hxx hw5 hr5 hk5 hkl hY hlen;go_wp2_with (with_reducible refine wpList_load_mid rfl 29 _ rfl b (o+k*3) rfl _ _ HRG.out Tryz.underlying29 rfl (by kernel_rfl) ?_);rw [<-HW5.out];refine (HNT.out _ _ HQ5.out).mono ?_;rintro e w6 ⟨⟨v6,rfl,hv6⟩,hk6⟩;obtain ⟨u3,u4,rfl,hw3,hw4⟩:=hv6;obtain ⟨a8,c8,rfl⟩:=hw3.shape;obtain ⟨a9,c9,rfl⟩:=hw4.shape;have HK6:=ae (HKr.out.trans (HK5.out.trans hk6));have ho7:=(HO.out.kept (HK5.out.trans hk6)).kept ((af.refl w6).alloc (.cells #[.bool Y.neg,.slice a8 Y.num.length c8,.slice a9 Y.den.length c9] 29));have hs6:w2.heap.size<=w6.heap.size:=HK6.out.size;have HO7:=ae ho7;have HW3:=ae (hw3.kept ((af.refl w6).alloc (.cells #[.bool Y.neg,.slice a8 Y.num.length c8,.slice a9 Y.den.length c9] 29)));have HW4:=ae (hw4.kept ((af.refl w6).alloc (.cells #[.bool Y.neg,.slice a8 Y.num.length c8,.slice a9 Y.den.length c9] 29)));have HS6:=ae hs6;clear hk6 hw3 hw4 ho7 hs6 q0 q1 q2;go_wp2_with (at_builtin;refine CO rfl _ _ rfl w2.heap.size _ ((ie ps).take k) rfl HO7.out w6.heap.size Y _ _ rfl (oQ _ _ _ _ _) HW3.out HW4.out (by have:=HLEN.out;omega) (by have:=HS6.out;simp;omega) ?_;intro v8 w8 hown8 hb8;have HO8:=ae hown8;have HK8:=ae ((HK6.out.alloc _).app hb8);clear hown8 hb8);go_roundg (n - (k+1))
   case measure=>omega
   case rel=>exact ⟨k+1,by omega,by go_num,Nat.le_refl _,ae (by rw [HTK.out];exact HO8.out),HK8⟩
  ·have hkn:¬ (k:Int)<(n:Int):=by omega
   have HRV:Hid (RatsAt wr u5 (ie ps)):=ae (by
    have h:=HO.out.at;rw [List.take_of_length_le (by rw [lD];have:=HN.out;omega)] at h;exact h)
   go_wp2_with fail;refine (HFA.out _ _ HRV.out).mono ?_;rintro e w7 ⟨⟨v7,rfl,hv7⟩,hk7⟩;obtain ⟨n8,l8,m8,a8,c8,b8,d8,w8,rfl,hw8,⟨⟨z0,j0⟩,⟨z1,j1⟩,⟨z2,j2⟩⟩,⟨f0,f1,f2⟩,hl8,Y,HRW,_,HKP⟩:=(HZ.out.kept (HKr.out.trans hk7)).save hv7;have HKE:=ae (HKP.out _ (HKw.out.trans hk7) (Nat.le_refl _));rw [hw8] at Y HRW HKE;clear hv7 hk7 hw8 HKP;go_wp2;refine bodyPost_ret (v:=.agg #[.bool n8,.slice a8 l8 c8,.slice b8 m8 d8]) ?_ rfl ⟨⟨_,rfl,HRW.out⟩,HKE.out⟩;simp [results,Tryz.results54,go_sem,Y.out.1,Y.out.2.1,Y.out.2.2]
def GB (ps:List Rw) (k:Nat):List Rw:=(ie ps).take k++ps.drop k
structure GH (xs:List Int) (ps:List Rw):Prop where
 ok:cU xs=0
 len:xs.length<=12
 gt:∀ s∈aR xs,s<16777216/\nz s<(ps.length:Int)
 bad:bI ps=false
theorem kB {xs:List Int} {ps:List Rw} (h:lF xs ps=0):xs=aO (aR xs)/\(aR xs).length<=1024/\(∀ s∈aR xs,s<16777216/\nz s<(ps.length:Int))/\bI ps=false:=by
 unfold lF at h;by_cases h1:cU xs=0
 ·rw [if_neg (by rw [h1];simp)] at h;obtain ⟨hlen,hok⟩:=Ai h1;obtain ⟨hys,hmk⟩:=nC hok;by_cases h2:(aR xs).any (fun s=>decide ((ps.length:Int)<=nz s))=true
  ·rw [if_pos h2] at h;cases h
  ·rw [if_neg h2] at h;refine ⟨hys,by unfold aR;rw [List.length_map];exact hlen,fun s hs=>⟨by have:=hmk s hs;unfold Mk at this;omega,?_⟩,?_⟩
   ·have h3:(aR xs).any (fun s=>decide ((ps.length:Int)<=nz s))=false:=by simpa using h2
    rw [List.any_eq_false] at h3;have:=h3 s hs;simp at this;omega
   ·cases hb:bI ps with
    | false=>rfl
    | true=>rw [hb,if_pos rfl] at h;cases h
 ·rw [if_pos h1] at h;exact absurd h h1
def nm (xs:List Int) (ps:List Rw):Rat:=if lF xs ps=0 then 1 - aP (fQ ps) (aR xs) else 0
def nj (xs:List Int) (ps:List Rw):Rat:=if lF xs ps=0 then aP (gQ ps) (aR xs) else 0
def sI (xs:List Int) (ps:List Rw):Rat:=if lF xs ps=0 then aC (fQ ps) (aR xs) else 0
def sW (xs:List Int) (ps:List Rw):Rat:=if lF xs ps=0 then 1 - aC (gQ ps) (aR xs) else 0
theorem cD {f:Nat->Rat} {l:List Nat} (hl:l.length<=1024) (h:∀ s∈l,(ah (f s)).Short 91):(ah (aP f l)).Short 95233:=by
 have h1:=oA (by decide) h l.length (Nat.le_refl _);rw [List.take_length] at h1;exact ⟨Nat.le_trans h1.1 (by omega),Nat.le_trans h1.2 (by omega)⟩
theorem dl {f:Nat->Rat} {l:List Nat} (h:∀ s∈l,(ah (f s)).Short 91):(ah (aC f l)).Short 95233:=by
 have h1:=qb h l.length (Nat.le_refl _);rw [List.take_length] at h1;exact ⟨Nat.le_trans h1.1 (by omega),Nat.le_trans h1.2 (by omega)⟩
theorem rK {r:Rw} (h:r.Short 95233):r.Short 34359738368:=⟨Nat.le_trans h.1 (by omega),Nat.le_trans h.2 (by omega)⟩
theorem mH (xv v:Value) (xs:List Int) (ps:List Rw) (w:World) (hx:am w xv xs) (hv:RatsAt w v ps) (h3:∀ r∈ps,r.Short 3) (h30:ps.length<=30) :
  Calls Tryz.prog 13 #[xv,v] w fun e w'=>(∃ v',e=.returned (.tuple #[v',aV (lF xs ps)])/\RatAt w' v' (ah (nm xs ps)))/\af w w':=by
 obtain ⟨Q,hQ⟩:∃ Q,Q=lF xs ps:=⟨_,rfl⟩;have HCK:Hid (∀ W,af w W->Calls Tryz.prog 46 #[xv,v] W fun e w'=>e=.returned (aV Q)/\af W w'):=ae fun W h=>by rw [hQ];exact fR xv v xs ps W (hx.kept h) (hv.kept h) h3
 obtain ⟨w2,hw2⟩:∃ w2,w2=w.alloc (.cells #[.bool false,.slice none 0 0,.slice none 0 0] 29):=⟨_,rfl⟩;have HZ:Hid (RatCell w2 w.heap.size ⟨false,[],[]⟩):=ae (by rw [hw2];exact RatCell.zero w);have HK2:Hid (af w w2):=ae (by rw [hw2];exact (af.refl w).alloc _);have HW2:=ae hw2;clear hw2;by_cases h0:Q=0
 ·have he:lF xs ps=0:=by rw [<-hQ];exact h0
  obtain ⟨hxs,hlen,hm,hbad⟩:=kB he;have hR:nm xs ps=1 - aP (fQ ps) (aR xs):=by unfold nm;rw [if_pos he]
  rw [hR,<-hQ];subst h0;obtain ⟨ss,hss⟩:∃ ss,ss=aR xs:=⟨_,rfl⟩;rw [<-hss] at hxs hlen hm⊢;subst hxs;have h91:∀ s∈ss,(ah (fQ ps s)).Short 91:=fun s _=>jn hv.ok h3 h30 s
  have hsa:=cD hlen h91
  have HIN:Hid (∀ W,af w W->Calls Tryz.prog 48 #[xv,v,.func (.func 49) #[] #[]] W fun e w'=>(∃ v',e=.returned v'/\RatAt w' v' (ah (aP (fQ ps) ss)))/\af W w'):=ae fun W h0 =>
   esnone_any 49 (enters_of Tryz.func49 (by kernel_rfl) rfl) (fQ ps) ss xv v W (hx.kept h0) hlen h91 (fun s hs W h1=>have h:=h0.trans h1;fS s v ps W (hm s hs).1 (hv.kept h) h3 h30)
  have HNT:Hid (∀ W u,RatAt W u (ah (aP (fQ ps) ss))->Calls Tryz.prog 47 #[u] W fun e w'=>(∃ v',e=.returned v'/\RatAt w' v' (ah (1 - aP (fQ ps) ss)))/\af W w'):=ae fun W u hu=>by
   have h:=fd u _ W hu (rK hsa);rw [al] at h;exact h
  obtain ⟨R0,hR0⟩:∃ R0,R0=ah (aP (fQ ps) ss):=⟨_,rfl⟩;obtain ⟨R1,hR1⟩:∃ R1,R1=ah (1 - aP (fQ ps) ss):=⟨_,rfl⟩;try rw [<-hR0] at HIN
  try rw [<-hR0,<-hR1] at HNT
  try rw [<-hR1]
  try rw [<-hR0]
  clear hQ he hR h91 hsa hR0 hR1 hlen hm hbad hss hx hv h3 h30;rw [aH] at HCK⊢;go_enter Tryz.func13,Tryz.ntmps13;go_wp2_with fail;rw [<-HW2.out];refine (HCK.out _ HK2.out).mono ?_;rintro e w3 ⟨rfl,hk3⟩;have HK3:=ae (HK2.out.trans hk3);have HZ3:=ae (HZ.out.kept hk3);clear hk3;go_wp2_with fail;refine (HIN.out _ HK3.out).mono ?_;rintro e w5 ⟨⟨v5,rfl,hv5⟩,hk5⟩;have HV5:=ae hv5;have HK5:=ae (HK3.out.trans hk5);have HZ5:=ae (HZ3.out.kept hk5);clear hv5 hk5;go_wp2_with fail;refine (HNT.out _ _ HV5.out).mono ?_;rintro e w6 ⟨⟨v6,rfl,hv6⟩,hk6⟩;have HVL:=ae hv6;have HKL:=ae (HK5.out.trans hk6);have HZL:=ae (HZ5.out.kept hk6);clear hv6 hk6;obtain ⟨n8,l8,m8,a8,c8,b8,d8,w8,rfl,hw8,⟨⟨z0,j0⟩,⟨z1,j1⟩,⟨z2,j2⟩⟩,⟨f0,f1,f2⟩,hl8,Y,HRW,_,HKP⟩:=HZL.out.save HVL.out;have HKE:=ae (HKP.out _ HKL.out (Nat.le_refl _));rw [hw8] at Y HRW HKE;clear hw8 HKP;go_wp2;refine bodyPost_ret (v:=.tuple #[.agg #[.bool n8,.slice a8 l8 c8,.slice b8 m8 d8],.nilIface]) ?_ rfl ⟨⟨_,rfl,HRW.out⟩,HKE.out⟩;simp [results,Tryz.results13,go_sem,Y.out.1,Y.out.2.1,Y.out.2.2]
 ·have hR:nm xs ps=0:=by unfold nm;rw [if_neg (by rw [<-hQ];exact h0)]
  rw [hR,<-hQ];have hqn:((Q:Nat):Int)≠0:=by omega
  have hqb:(((Q:Nat):Int) != 0)=true:=by simpa using hqn
  have hqe:aV Q=.iface 60 (.int .i64 Q):=aA h0;rw [hqe] at HCK⊢;clear hQ hR h0 hqe hx hv h3 h30;go_enter Tryz.func13,Tryz.ntmps13;go_wp2_with fail;rw [<-HW2.out];refine (HCK.out _ HK2.out).mono ?_;rintro e w3 ⟨rfl,hk3⟩;obtain ⟨n8,l8,m8,a8,c8,b8,d8,w8,he,hw8,⟨⟨z0,j0⟩,⟨z1,j1⟩,⟨z2,j2⟩⟩,⟨f0,f1,f2⟩,hl8,Y,HRW,_,HKP⟩:=(HZ.out.kept hk3).save (RatAt.zero w3);have HKE:=ae (HKP.out _ (HK2.out.trans hk3) (Nat.le_refl _));simp only [Value.agg.injEq,Array.mk.injEq,List.cons.injEq,Value.bool.injEq,Value.slice.injEq,and_true] at he;obtain ⟨rfl,⟨rfl,rfl,rfl⟩,rfl,rfl,rfl⟩:=he;rw [hw8] at Y HRW HKE;clear hk3 hw8 HKP;go_wp2;refine bodyPost_ret (v:=.tuple #[.agg #[.bool false,.slice none 0 0,.slice none 0 0],.iface 60 (.int .i64 (Q:Nat))]) ?_ rfl ⟨⟨_,rfl,HRW.out⟩,HKE.out⟩;simp [results,Tryz.results13,go_sem,Y.out.1,Y.out.2.1,Y.out.2.2]
theorem mG (xv v:Value) (xs:List Int) (ps:List Rw) (w:World) (hx:am w xv xs) (hv:RatsAt w v ps) (h3:∀ r∈ps,r.Short 3) (h30:ps.length<=30) :
  Calls Tryz.prog 15 #[xv,v] w fun e w'=>(∃ v',e=.returned (.tuple #[v',aV (lF xs ps)])/\RatAt w' v' (ah (nj xs ps)))/\af w w':=by
 obtain ⟨Q,hQ⟩:∃ Q,Q=lF xs ps:=⟨_,rfl⟩;have HCK:Hid (∀ W,af w W->Calls Tryz.prog 46 #[xv,v] W fun e w'=>e=.returned (aV Q)/\af W w'):=ae fun W h=>by rw [hQ];exact fR xv v xs ps W (hx.kept h) (hv.kept h) h3
 obtain ⟨w2,hw2⟩:∃ w2,w2=w.alloc (.cells #[.bool false,.slice none 0 0,.slice none 0 0] 29):=⟨_,rfl⟩;have HZ:Hid (RatCell w2 w.heap.size ⟨false,[],[]⟩):=ae (by rw [hw2];exact RatCell.zero w);have HK2:Hid (af w w2):=ae (by rw [hw2];exact (af.refl w).alloc _);have HW2:=ae hw2;clear hw2;by_cases h0:Q=0
 ·have he:lF xs ps=0:=by rw [<-hQ];exact h0
  obtain ⟨hxs,hlen,hm,hbad⟩:=kB he;have hR:nj xs ps=aP (gQ ps) (aR xs):=by unfold nj;rw [if_pos he]
  rw [hR,<-hQ];subst h0;obtain ⟨ss,hss⟩:∃ ss,ss=aR xs:=⟨_,rfl⟩;rw [<-hss] at hxs hlen hm⊢;subst hxs;have h91:∀ s∈ss,(ah (gQ ps s)).Short 91:=fun s _=>kV hv.ok hbad h3 h30 s
  have hsa:=cD hlen h91
  have HIN:Hid (∀ W,af w W->Calls Tryz.prog 48 #[xv,v,.func (.func 54) #[] #[]] W fun e w'=>(∃ v',e=.returned v'/\RatAt w' v' (ah (aP (gQ ps) ss)))/\af W w'):=ae fun W h0 =>
   esnone_any 54 (enters_of Tryz.func54 (by kernel_rfl) rfl) (gQ ps) ss xv v W (hx.kept h0) hlen h91 (fun s hs W h1=>have h:=h0.trans h1;iK s v ps W (hm s hs).1 (hv.kept h) h3 h30 hbad)
  obtain ⟨R0,hR0⟩:∃ R0,R0=ah (aP (gQ ps) ss):=⟨_,rfl⟩;obtain ⟨R1,hR1⟩:∃ R1,R1=ah (1 - aP (gQ ps) ss):=⟨_,rfl⟩;try rw [<-hR0] at HIN
  try rw [<-hR0,<-hR1] at HNT
  try rw [<-hR1]
  try rw [<-hR0]
  clear hQ he hR h91 hsa hR0 hR1 hlen hm hbad hss hx hv h3 h30;rw [aH] at HCK⊢;go_enter Tryz.func15,Tryz.ntmps15;go_wp2_with fail;rw [<-HW2.out];refine (HCK.out _ HK2.out).mono ?_;rintro e w3 ⟨rfl,hk3⟩;have HK3:=ae (HK2.out.trans hk3);have HZ3:=ae (HZ.out.kept hk3);clear hk3;go_wp2_with fail;refine (HIN.out _ HK3.out).mono ?_;rintro e w5 ⟨⟨v5,rfl,hv5⟩,hk5⟩;have HV5:=ae hv5;have HK5:=ae (HK3.out.trans hk5);have HZ5:=ae (HZ3.out.kept hk5);clear hv5 hk5;have HVL:=HV5;have HKL:=HK5;have HZL:=HZ5;obtain ⟨n8,l8,m8,a8,c8,b8,d8,w8,rfl,hw8,⟨⟨z0,j0⟩,⟨z1,j1⟩,⟨z2,j2⟩⟩,⟨f0,f1,f2⟩,hl8,Y,HRW,_,HKP⟩:=HZL.out.save HVL.out;have HKE:=ae (HKP.out _ HKL.out (Nat.le_refl _));rw [hw8] at Y HRW HKE;clear hw8 HKP;go_wp2;refine bodyPost_ret (v:=.tuple #[.agg #[.bool n8,.slice a8 l8 c8,.slice b8 m8 d8],.nilIface]) ?_ rfl ⟨⟨_,rfl,HRW.out⟩,HKE.out⟩;simp [results,Tryz.results15,go_sem,Y.out.1,Y.out.2.1,Y.out.2.2]
 ·have hR:nj xs ps=0:=by unfold nj;rw [if_neg (by rw [<-hQ];exact h0)]
  rw [hR,<-hQ];have hqn:((Q:Nat):Int)≠0:=by omega
  have hqb:(((Q:Nat):Int) != 0)=true:=by simpa using hqn
  have hqe:aV Q=.iface 60 (.int .i64 Q):=aA h0;rw [hqe] at HCK⊢;clear hQ hR h0 hqe hx hv h3 h30;go_enter Tryz.func15,Tryz.ntmps15;go_wp2_with fail;rw [<-HW2.out];refine (HCK.out _ HK2.out).mono ?_;rintro e w3 ⟨rfl,hk3⟩;obtain ⟨n8,l8,m8,a8,c8,b8,d8,w8,he,hw8,⟨⟨z0,j0⟩,⟨z1,j1⟩,⟨z2,j2⟩⟩,⟨f0,f1,f2⟩,hl8,Y,HRW,_,HKP⟩:=(HZ.out.kept hk3).save (RatAt.zero w3);have HKE:=ae (HKP.out _ (HK2.out.trans hk3) (Nat.le_refl _));simp only [Value.agg.injEq,Array.mk.injEq,List.cons.injEq,Value.bool.injEq,Value.slice.injEq,and_true] at he;obtain ⟨rfl,⟨rfl,rfl,rfl⟩,rfl,rfl,rfl⟩:=he;rw [hw8] at Y HRW HKE;clear hk3 hw8 HKP;go_wp2;refine bodyPost_ret (v:=.tuple #[.agg #[.bool false,.slice none 0 0,.slice none 0 0],.iface 60 (.int .i64 (Q:Nat))]) ?_ rfl ⟨⟨_,rfl,HRW.out⟩,HKE.out⟩;simp [results,Tryz.results15,go_sem,Y.out.1,Y.out.2.1,Y.out.2.2]
theorem sp (xv v:Value) (xs:List Int) (ps:List Rw) (w:World) (hx:am w xv xs) (hv:RatsAt w v ps) (h3:∀ r∈ps,r.Short 3) (h30:ps.length<=30) :
  Calls Tryz.prog 24 #[xv,v] w fun e w'=>(∃ v',e=.returned (.tuple #[v',aV (lF xs ps)])/\RatAt w' v' (ah (sI xs ps)))/\af w w':=by
 obtain ⟨Q,hQ⟩:∃ Q,Q=lF xs ps:=⟨_,rfl⟩;have HCK:Hid (∀ W,af w W->Calls Tryz.prog 46 #[xv,v] W fun e w'=>e=.returned (aV Q)/\af W w'):=ae fun W h=>by rw [hQ];exact fR xv v xs ps W (hx.kept h) (hv.kept h) h3
 obtain ⟨w2,hw2⟩:∃ w2,w2=w.alloc (.cells #[.bool false,.slice none 0 0,.slice none 0 0] 29):=⟨_,rfl⟩;have HZ:Hid (RatCell w2 w.heap.size ⟨false,[],[]⟩):=ae (by rw [hw2];exact RatCell.zero w);have HK2:Hid (af w w2):=ae (by rw [hw2];exact (af.refl w).alloc _);have HW2:=ae hw2;clear hw2;by_cases h0:Q=0
 ·have he:lF xs ps=0:=by rw [<-hQ];exact h0
  obtain ⟨hxs,hlen,hm,hbad⟩:=kB he;have hR:sI xs ps=aC (fQ ps) (aR xs):=by unfold sI;rw [if_pos he]
  rw [hR,<-hQ];subst h0;obtain ⟨ss,hss⟩:∃ ss,ss=aR xs:=⟨_,rfl⟩;rw [<-hss] at hxs hlen hm⊢;subst hxs;have h91:∀ s∈ss,(ah (fQ ps s)).Short 91:=fun s _=>jn hv.ok h3 h30 s
  have hsa:=dl h91
  have HIN:Hid (∀ W,af w W->Calls Tryz.prog 58 #[xv,v,.func (.func 49) #[] #[]] W fun e w'=>(∃ v',e=.returned v'/\RatAt w' v' (ah (aC (fQ ps) ss)))/\af W w'):=ae fun W h0 =>
   esgreat_any 49 (enters_of Tryz.func49 (by kernel_rfl) rfl) (fQ ps) ss xv v W (hx.kept h0) hlen h91 (fun s hs W h1=>have h:=h0.trans h1;fS s v ps W (hm s hs).1 (hv.kept h) h3 h30)
  obtain ⟨R0,hR0⟩:∃ R0,R0=ah (aC (fQ ps) ss):=⟨_,rfl⟩;obtain ⟨R1,hR1⟩:∃ R1,R1=ah (1 - aC (fQ ps) ss):=⟨_,rfl⟩;try rw [<-hR0] at HIN
  try rw [<-hR0,<-hR1] at HNT
  try rw [<-hR1]
  try rw [<-hR0]
  clear hQ he hR h91 hsa hR0 hR1 hlen hm hbad hss hx hv h3 h30;rw [aH] at HCK⊢;go_enter Tryz.func24,Tryz.ntmps24;go_wp2_with fail;rw [<-HW2.out];refine (HCK.out _ HK2.out).mono ?_;rintro e w3 ⟨rfl,hk3⟩;have HK3:=ae (HK2.out.trans hk3);have HZ3:=ae (HZ.out.kept hk3);clear hk3;go_wp2_with fail;refine (HIN.out _ HK3.out).mono ?_;rintro e w5 ⟨⟨v5,rfl,hv5⟩,hk5⟩;have HV5:=ae hv5;have HK5:=ae (HK3.out.trans hk5);have HZ5:=ae (HZ3.out.kept hk5);clear hv5 hk5;have HVL:=HV5;have HKL:=HK5;have HZL:=HZ5;obtain ⟨n8,l8,m8,a8,c8,b8,d8,w8,rfl,hw8,⟨⟨z0,j0⟩,⟨z1,j1⟩,⟨z2,j2⟩⟩,⟨f0,f1,f2⟩,hl8,Y,HRW,_,HKP⟩:=HZL.out.save HVL.out;have HKE:=ae (HKP.out _ HKL.out (Nat.le_refl _));rw [hw8] at Y HRW HKE;clear hw8 HKP;go_wp2;refine bodyPost_ret (v:=.tuple #[.agg #[.bool n8,.slice a8 l8 c8,.slice b8 m8 d8],.nilIface]) ?_ rfl ⟨⟨_,rfl,HRW.out⟩,HKE.out⟩;simp [results,Tryz.results24,go_sem,Y.out.1,Y.out.2.1,Y.out.2.2]
 ·have hR:sI xs ps=0:=by unfold sI;rw [if_neg (by rw [<-hQ];exact h0)]
  rw [hR,<-hQ];have hqn:((Q:Nat):Int)≠0:=by omega
  have hqb:(((Q:Nat):Int) != 0)=true:=by simpa using hqn
  have hqe:aV Q=.iface 60 (.int .i64 Q):=aA h0;rw [hqe] at HCK⊢;clear hQ hR h0 hqe hx hv h3 h30;go_enter Tryz.func24,Tryz.ntmps24;go_wp2_with fail;rw [<-HW2.out];refine (HCK.out _ HK2.out).mono ?_;rintro e w3 ⟨rfl,hk3⟩;obtain ⟨n8,l8,m8,a8,c8,b8,d8,w8,he,hw8,⟨⟨z0,j0⟩,⟨z1,j1⟩,⟨z2,j2⟩⟩,⟨f0,f1,f2⟩,hl8,Y,HRW,_,HKP⟩:=(HZ.out.kept hk3).save (RatAt.zero w3);have HKE:=ae (HKP.out _ (HK2.out.trans hk3) (Nat.le_refl _));simp only [Value.agg.injEq,Array.mk.injEq,List.cons.injEq,Value.bool.injEq,Value.slice.injEq,and_true] at he;obtain ⟨rfl,⟨rfl,rfl,rfl⟩,rfl,rfl,rfl⟩:=he;rw [hw8] at Y HRW HKE;clear hk3 hw8 HKP;go_wp2;refine bodyPost_ret (v:=.tuple #[.agg #[.bool false,.slice none 0 0,.slice none 0 0],.iface 60 (.int .i64 (Q:Nat))]) ?_ rfl ⟨⟨_,rfl,HRW.out⟩,HKE.out⟩;simp [results,Tryz.results24,go_sem,Y.out.1,Y.out.2.1,Y.out.2.2]
theorem uL (xv v:Value) (xs:List Int) (ps:List Rw) (w:World) (hx:am w xv xs) (hv:RatsAt w v ps) (h3:∀ r∈ps,r.Short 3) (h30:ps.length<=30) :
  Calls Tryz.prog 26 #[xv,v] w fun e w'=>(∃ v',e=.returned (.tuple #[v',aV (lF xs ps)])/\RatAt w' v' (ah (sW xs ps)))/\af w w':=by
 obtain ⟨Q,hQ⟩:∃ Q,Q=lF xs ps:=⟨_,rfl⟩;have HCK:Hid (∀ W,af w W->Calls Tryz.prog 46 #[xv,v] W fun e w'=>e=.returned (aV Q)/\af W w'):=ae fun W h=>by rw [hQ];exact fR xv v xs ps W (hx.kept h) (hv.kept h) h3
 obtain ⟨w2,hw2⟩:∃ w2,w2=w.alloc (.cells #[.bool false,.slice none 0 0,.slice none 0 0] 29):=⟨_,rfl⟩;have HZ:Hid (RatCell w2 w.heap.size ⟨false,[],[]⟩):=ae (by rw [hw2];exact RatCell.zero w);have HK2:Hid (af w w2):=ae (by rw [hw2];exact (af.refl w).alloc _);have HW2:=ae hw2;clear hw2;by_cases h0:Q=0
 ·have he:lF xs ps=0:=by rw [<-hQ];exact h0
  obtain ⟨hxs,hlen,hm,hbad⟩:=kB he;have hR:sW xs ps=1 - aC (gQ ps) (aR xs):=by unfold sW;rw [if_pos he]
  rw [hR,<-hQ];subst h0;obtain ⟨ss,hss⟩:∃ ss,ss=aR xs:=⟨_,rfl⟩;rw [<-hss] at hxs hlen hm⊢;subst hxs;have h91:∀ s∈ss,(ah (gQ ps s)).Short 91:=fun s _=>kV hv.ok hbad h3 h30 s
  have hsa:=dl h91
  have HIN:Hid (∀ W,af w W->Calls Tryz.prog 58 #[xv,v,.func (.func 54) #[] #[]] W fun e w'=>(∃ v',e=.returned v'/\RatAt w' v' (ah (aC (gQ ps) ss)))/\af W w'):=ae fun W h0 =>
   esgreat_any 54 (enters_of Tryz.func54 (by kernel_rfl) rfl) (gQ ps) ss xv v W (hx.kept h0) hlen h91 (fun s hs W h1=>have h:=h0.trans h1;iK s v ps W (hm s hs).1 (hv.kept h) h3 h30 hbad)
  have HNT:Hid (∀ W u,RatAt W u (ah (aC (gQ ps) ss))->Calls Tryz.prog 47 #[u] W fun e w'=>(∃ v',e=.returned v'/\RatAt w' v' (ah (1 - aC (gQ ps) ss)))/\af W w'):=ae fun W u hu=>by
   have h:=fd u _ W hu (rK hsa);rw [al] at h;exact h
  obtain ⟨R0,hR0⟩:∃ R0,R0=ah (aC (gQ ps) ss):=⟨_,rfl⟩;obtain ⟨R1,hR1⟩:∃ R1,R1=ah (1 - aC (gQ ps) ss):=⟨_,rfl⟩;try rw [<-hR0] at HIN
  try rw [<-hR0,<-hR1] at HNT
  try rw [<-hR1]
  try rw [<-hR0]
  clear hQ he hR h91 hsa hR0 hR1 hlen hm hbad hss hx hv h3 h30;rw [aH] at HCK⊢;go_enter Tryz.func26,Tryz.ntmps26;go_wp2_with fail;rw [<-HW2.out];refine (HCK.out _ HK2.out).mono ?_;rintro e w3 ⟨rfl,hk3⟩;have HK3:=ae (HK2.out.trans hk3);have HZ3:=ae (HZ.out.kept hk3);clear hk3;go_wp2_with fail;refine (HIN.out _ HK3.out).mono ?_;rintro e w5 ⟨⟨v5,rfl,hv5⟩,hk5⟩;have HV5:=ae hv5;have HK5:=ae (HK3.out.trans hk5);have HZ5:=ae (HZ3.out.kept hk5);clear hv5 hk5;go_wp2_with fail;refine (HNT.out _ _ HV5.out).mono ?_;rintro e w6 ⟨⟨v6,rfl,hv6⟩,hk6⟩;have HVL:=ae hv6;have HKL:=ae (HK5.out.trans hk6);have HZL:=ae (HZ5.out.kept hk6);clear hv6 hk6;obtain ⟨n8,l8,m8,a8,c8,b8,d8,w8,rfl,hw8,⟨⟨z0,j0⟩,⟨z1,j1⟩,⟨z2,j2⟩⟩,⟨f0,f1,f2⟩,hl8,Y,HRW,_,HKP⟩:=HZL.out.save HVL.out;have HKE:=ae (HKP.out _ HKL.out (Nat.le_refl _));rw [hw8] at Y HRW HKE;clear hw8 HKP;go_wp2;refine bodyPost_ret (v:=.tuple #[.agg #[.bool n8,.slice a8 l8 c8,.slice b8 m8 d8],.nilIface]) ?_ rfl ⟨⟨_,rfl,HRW.out⟩,HKE.out⟩;simp [results,Tryz.results26,go_sem,Y.out.1,Y.out.2.1,Y.out.2.2]
 ·have hR:sW xs ps=0:=by unfold sW;rw [if_neg (by rw [<-hQ];exact h0)]
  rw [hR,<-hQ];have hqn:((Q:Nat):Int)≠0:=by omega
  have hqb:(((Q:Nat):Int) != 0)=true:=by simpa using hqn
  have hqe:aV Q=.iface 60 (.int .i64 Q):=aA h0;rw [hqe] at HCK⊢;clear hQ hR h0 hqe hx hv h3 h30;go_enter Tryz.func26,Tryz.ntmps26;go_wp2_with fail;rw [<-HW2.out];refine (HCK.out _ HK2.out).mono ?_;rintro e w3 ⟨rfl,hk3⟩;obtain ⟨n8,l8,m8,a8,c8,b8,d8,w8,he,hw8,⟨⟨z0,j0⟩,⟨z1,j1⟩,⟨z2,j2⟩⟩,⟨f0,f1,f2⟩,hl8,Y,HRW,_,HKP⟩:=(HZ.out.kept hk3).save (RatAt.zero w3);have HKE:=ae (HKP.out _ (HK2.out.trans hk3) (Nat.le_refl _));simp only [Value.agg.injEq,Array.mk.injEq,List.cons.injEq,Value.bool.injEq,Value.slice.injEq,and_true] at he;obtain ⟨rfl,⟨rfl,rfl,rfl⟩,rfl,rfl,rfl⟩:=he;rw [hw8] at Y HRW HKE;clear hk3 hw8 HKP;go_wp2;refine bodyPost_ret (v:=.tuple #[.agg #[.bool false,.slice none 0 0,.slice none 0 0],.iface 60 (.int .i64 (Q:Nat))]) ?_ rfl ⟨⟨_,rfl,HRW.out⟩,HKE.out⟩;simp [results,Tryz.results26,go_sem,Y.out.1,Y.out.2.1,Y.out.2.2]
def jP (arg:List Nat):List Nat->List (List Nat)->Option (List (List Nat))
 | _,[]=>some []
 | p,q :: t=>(aN p arg).bind fun x=>(bN q x).bind fun y=>(jP arg q t).map fun r=>y :: r
def eN (t:List (List Nat)) (arg:List Nat):Option (List (List Nat)):=match t with
 | []=>some []
 | p :: t=>(jP arg p t).map fun r=>p :: r
def gz (t:List (List Nat)) (args:List (List Nat)):Option (List (List Nat)):=args.foldlM eN t
def fE (args:List (List Nat)) (m:Nat):Option (List Nat):=(gz ([0] :: List.replicate m []) args).map fun t=>t.getD m []
theorem yR {arg:List Nat}:∀ {t r:List (List Nat)} {p:List Nat},jP arg p t=some r->r.length=t.length:=by
 intro t;induction t with
 | nil=>intro r p h;cases h;rfl
 | cons q t ih =>
  intro r p h;obtain ⟨x,_,h⟩:=Option.bind_eq_some_iff.1 h;obtain ⟨y,_,h⟩:=Option.bind_eq_some_iff.1 h;obtain ⟨u,hu,h⟩:=Option.map_eq_some_iff.1 h;rw [<-h,List.length_cons,List.length_cons,ih hu]
theorem vH {arg:List Nat} {t r:List (List Nat)} (h:eN t arg=some r):r.length=t.length:=by
 cases t with
 | nil=>cases h;rfl
 | cons p t =>
  obtain ⟨u,hu,h⟩:=Option.map_eq_some_iff.1 h;rw [<-h,List.length_cons,List.length_cons,yR hu]
theorem CC {arg:List Nat} {s c:Nat}:∀ {t r:List (List Nat)} {p:List Nat} {j:Nat},(up p s ↔ j<=c)->(∀ i (h:i<t.length),(up t[i] s ↔ j+1+i<=c))->jP arg p t=some r ->
  ∀ i (h:i<r.length),(up r[i] s ↔ j+1+i<=c+pu s [arg]):=by
 intro t;induction t with
 | nil=>intro r p j _ _ h i hi;cases h;cases hi
 | cons q t ih =>
  intro r p j hp ht h i hi;obtain ⟨x,hx,h⟩:=Option.bind_eq_some_iff.1 h;obtain ⟨y,hy,h⟩:=Option.bind_eq_some_iff.1 h;obtain ⟨u,hu,h⟩:=Option.map_eq_some_iff.1 h;subst h;have hq:=ht 0 (by simp);cases i with
  | zero =>
   show up y s ↔ _;rw [ue hy,mZ hx,hp,show (up q s ↔ _) from hq];simp only [pu];by_cases h1:up arg s
   ·rw [if_pos h1];constructor
    ·rintro (h | ⟨h,_⟩) <;> omega
    ·intro h;exact .inr ⟨by omega,h1⟩
   ·rw [if_neg h1];constructor
    ·rintro (h | ⟨_,h⟩)
     ·omega
     ·exact absurd h h1
    ·intro h;exact .inl (by omega)
  | succ i =>
   have:=ih (j:=j+1) hq (fun i hi=>by
    have:=ht (i+1) (by simpa using hi);rw [show j+1+1+i=j+1+(i+1) by omega];exact this) hu i (by simpa using hi)
   rw [show j+1+(i+1)=j+1+1+i by omega];exact this
theorem zB {arg:List Nat} {s c:Nat} {t r:List (List Nat)} (ht:∀ i (h:i<t.length),(up t[i] s ↔ i<=c)) (h:eN t arg=some r):∀ i (h:i<r.length),(up r[i] s ↔ i<=c+pu s [arg]):=by
 cases t with
 | nil=>cases h;intro i hi;cases hi
 | cons p t =>
  obtain ⟨u,hu,h⟩:=Option.map_eq_some_iff.1 h;subst h;intro i hi;cases i with
  | zero =>
   have h0:=ht 0 (by simp);show up p s ↔ _;rw [show (up p s ↔ _) from h0];exact ⟨fun _=>by omega,fun _=>by omega⟩
  | succ i =>
   have:=CC (j:=0) (ht 0 (by simp)) (fun i hi=>by
    have:=ht (i+1) (by simpa using hi);rw [show 0+1+i=i+1 by omega];exact this) hu i (by simpa using hi)
   rw [show 0+1+i=i+1 by omega] at this;exact this
theorem CB {s:Nat}:∀ {args:List (List Nat)} {t r:List (List Nat)} {c:Nat},(∀ i (h:i<t.length),(up t[i] s ↔ i<=c))->gz t args=some r->r.length=t.length/\∀ i (h:i<r.length),(up r[i] s ↔ i<=c+pu s args):=by
 intro args;induction args with
 | nil=>intro t r c ht h;cases h;exact ⟨rfl,fun i hi=>by simpa [pu] using ht i hi⟩
 | cons a args ih =>
  intro t r c ht h;unfold gz at h;rw [List.foldlM_cons] at h;obtain ⟨u,hu,h⟩:=Option.bind_eq_some_iff.1 h;obtain ⟨h1,h2⟩:=ih (c:=c+pu s [a]) (zB ht hu) h;refine ⟨h1.trans (vH hu),fun i hi=>?_⟩;rw [h2 i hi];simp only [pu];omega
theorem zC {args:List (List Nat)} {m:Nat} {l:List Nat} (h:fE args m=some l) (s:Nat):up l s ↔ m<=pu s args:=by
 obtain ⟨r,hr,h⟩:=Option.map_eq_some_iff.1 h
 obtain ⟨h1,h2⟩:=CB (c:=0) (s:=s) (fun i hi=>by
  cases i with
  | zero=>exact ⟨fun _=>by omega,fun _=>rO s⟩
  | succ i =>
   have e:([0] :: List.replicate m ([]:List Nat))[i+1]=[]:=by simp
   rw [e];exact ⟨fun h=>absurd h (ww s),fun h=>by omega⟩) hr
 have hl:m<r.length:=by rw [h1];simp
 have e:r.getD m []=r[m]:=by rw [List.getD_eq_getElem?_getD,List.getElem?_eq_getElem hl];rfl
 rw [<-h,e,h2 m hl];omega
def cI (kind:Int) (k:Int) (fams:List (List Nat)):Option (List Nat) :=
 if kind=0 then some (if k=1 then [] else [0]) else if kind=2 then bS bN [] fams else if kind=3 then bS aN [0] fams else fE fams (fams.length - k.toNat+1)
def dV (V:Nat) (mark:List Bool) (nodes:List Nd) (out:List (List Nat)) (i:Nat):Option (List (List Nat)) :=
 if mark.getD (V+i) false then (cI (nodes.getD i bB).kind (nodes.getD i bB).k ((nodes.getD i bB).args.map (ft V out))).map fun l=>out.set i l else some out
def dp (V:Nat) (mark:List Bool) (nodes:List Nd):Nat->Option (List (List Nat))
 | 0=>some (List.replicate nodes.length [])
 | k+1=>(dp V mark nodes k).bind fun out=>dV V mark nodes out k
theorem zA {kind k:Int} {fams:List (List Nat)} {l:List Nat} (h:cI kind k fams=some l) (hk:kind=0\/kind=2\/kind=3\/kind=4) (h4:kind=4->1<=k/\k<=fams.length) (s:Nat):up l s ↔ mN kind k (fams.length - pu s fams) fams.length=false:=by
 have hle:=Cx s fams;unfold cI at h;unfold mN;rcases hk with rfl | rfl | rfl | rfl
 ·simp only [if_true] at h⊢;by_cases e:k=1
  ·rw [if_pos e] at h;cases h;simp [e,ww]
  ·rw [if_neg e] at h;cases h;simp [e,rO]
 ·simp only [show ¬ (2:Int)=0 by decide,show ¬ (2:Int)=3 by decide,show ¬ (2:Int)=1 by decide,if_true,if_false] at h⊢;rw [zz fams s [] l h,<-DL];simp [ww];omega
 ·simp only [show ¬ (3:Int)=0 by decide,show ¬ (3:Int)=2 by decide,show ¬ (3:Int)=1 by decide,if_true,if_false] at h⊢;rw [wv fams s [0] l h,<-DK];simp [rO];omega
 ·simp only [show ¬ (4:Int)=0 by decide,show ¬ (4:Int)=2 by decide,show ¬ (4:Int)=1 by decide,show ¬ (4:Int)=3 by decide,if_true,if_false] at h⊢;rw [zC h,decide_eq_false_iff_not];have:=h4 rfl;omega
theorem uV {arg:List Nat}:∀ {t r:List (List Nat)} {p:List Nat},jP arg p t=some r->∀ l∈r,Good l:=by
 intro t;induction t with
 | nil=>intro r p h l hl;cases h;cases hl
 | cons q t ih =>
  intro r p h l hl;obtain ⟨x,hx,h⟩:=Option.bind_eq_some_iff.1 h;obtain ⟨y,hy,h⟩:=Option.bind_eq_some_iff.1 h;obtain ⟨u,hu,h⟩:=Option.map_eq_some_iff.1 h;subst h;rcases List.mem_cons.1 hl with e | e
  ·rw [e];exact oi hy
  ·exact ih hu l e
theorem sw {arg:List Nat} {t r:List (List Nat)} (ht:∀ l∈t,Good l) (h:eN t arg=some r):∀ l∈r,Good l:=by
 cases t with
 | nil=>cases h;exact ht
 | cons p t =>
  obtain ⟨u,hu,h⟩:=Option.map_eq_some_iff.1 h;subst h;intro l hl;rcases List.mem_cons.1 hl with e | e
  ·rw [e];exact ht p (List.mem_cons_self ..)
  ·exact uV hu l e
theorem uU:∀ {args:List (List Nat)} {t r:List (List Nat)},(∀ l∈t,Good l)->gz t args=some r->∀ l∈r,Good l:=by
 intro args;induction args with
 | nil=>intro t r ht h;cases h;exact ht
 | cons a args ih =>
  intro t r ht h;unfold gz at h;rw [List.foldlM_cons] at h;obtain ⟨u,hu,h⟩:=Option.bind_eq_some_iff.1 h;exact ih (sw ht hu) h
theorem uW (m:Nat):∀ l∈([0] :: List.replicate m ([]:List Nat)),Good l:=fun l hl=>by
 rcases List.mem_cons.1 hl with e | e
 ·rw [e];exact iM 0
 ·rw [(List.mem_replicate.1 e).2];exact iL
theorem mI {kind k:Int} {fams:List (List Nat)} {l:List Nat} (h:cI kind k fams=some l):Good l:=by
 unfold cI at h;split at h
 ·split at h
  ·cases h;exact iL
  ·cases h;exact iM 0
 ·split at h
  ·exact p_ _ (fun _ _ _ h=>oi h) _ _ _ iL h
  ·split at h
   ·exact p_ _ (fun _ _ _ h=>pD h) _ _ _ (iM 0) h
   ·obtain ⟨r,hr,h⟩:=Option.map_eq_some_iff.1 h;have hg:=uU (uW _) hr;rw [<-h];rw [List.getD_eq_getElem?_getD];cases e:r[fams.length - k.toNat+1]? with
    | none=>exact iL
    | some x=>exact hg x (List.mem_of_getElem? e)
theorem iR (V:Nat) (mark:List Bool) (nodes:List Nd):∀ k out,dp V mark nodes k=some out->out.length=nodes.length:=by
 intro k;induction k with
 | zero=>intro out h;cases h;simp
 | succ k ih =>
  intro out h;obtain ⟨o,h1,h2⟩:=Option.bind_eq_some_iff.1 h;unfold dV at h2;split at h2
  ·obtain ⟨l,_,h4⟩:=Option.map_eq_some_iff.1 h2;rw [<-h4,List.length_set,ih o h1]
  ·cases h2;exact ih _ h1
def pt (s:Nat):Nat:=aM 16777215 s
theorem ek (s i:Nat) (hi:i<24):(pt s).testBit i=!s.testBit i:=by
 unfold pt;rw [bi,show (16777215:Nat)=2^24 - 1 from rfl,Nat.testBit_two_pow_sub_one];simp [hi]
theorem wz (V T s:Nat) (f:Fm) (hok:Ok f V T) (mark:List Bool) (hmono:∀ i (hi:i<f.nodes.length),mark.getD (V+i) false=true->f.nodes[i].kind=0\/f.nodes[i].kind=2\/f.nodes[i].kind=3\/f.nodes[i].kind=4)
  (hcl:∀ i (hi:i<f.nodes.length),mark.getD (V+i) false=true->∀ a∈f.nodes[i].args,mark.getD a.toNat false=true) :
  ∀ k out,k<=f.nodes.length->dp V mark f.nodes k=some out->∀ i,i<k->mark.getD (V+i) false=true->(up (out.getD i []) (pt s) ↔ (bw V s f.nodes k).getD (V+i) false=false):=by
 intro k;induction k with
 | zero=>intro out _ _ i hi;omega
 | succ k ih =>
  intro out hk h i hi hm;obtain ⟨o,h1,h2⟩:=Option.bind_eq_some_iff.1 h;have hkx:k<f.nodes.length:=by omega
  have hnd:f.nodes.getD k bB=f.nodes[k]:=by simp [List.getD_eq_getElem?_getD,hkx]
  have hol:=iR V mark f.nodes k o h1
  have hold:∀ i,i<k->mark.getD (V+i) false=true->(up (o.getD i []) (pt s) ↔ (bw V s f.nodes (k+1)).getD (V+i) false=false):=fun i hi hm=>by
   rw [ic V s f.nodes k (k+1) (V+i) (by omega) (by omega)];exact ih o (by omega) h1 i hi hm
  unfold dV at h2;rw [hnd] at h2;by_cases e:i=k
  ·subst e;rw [if_pos hm] at h2;obtain ⟨l,hl,h4⟩:=Option.map_eq_some_iff.1 h2;subst h4;rw [List.getD_eq_getElem?_getD,List.getElem?_set_self (by omega)];show up l (pt s) ↔ _
   have hval:(bw V s f.nodes (i+1)).getD (V+i) false=mN f.nodes[i].kind f.nodes[i].k (cS (bw V s f.nodes i) f.nodes[i].args) f.nodes[i].args.length:=by
    show (bw V s f.nodes i++_).getD (V+i) false=_;rw [List.getD_eq_getElem?_getD,List.getElem?_append_right (by rw [gS];omega),gS,Nat.sub_self,hnd];rfl
   have hcnt:∀ bs:List Int,(∀ a∈bs,(0<=a/\a<(V:Int)+i)/\mark.getD a.toNat false=true)->pu (pt s) (bs.map (ft V o))+cS (bw V s f.nodes i) bs=bs.length:=by
    intro bs;induction bs with
    | nil=>intro _;rfl
    | cons a bs iha =>
     intro ha;have h3:=ha a (List.mem_cons_self ..);have ih2:=iha fun x hx=>ha x (List.mem_cons_of_mem _ hx)
     simp only [List.map_cons,pu,cS,List.length_cons]
     have key:up (ft V o a) (pt s) ↔ (bw V s f.nodes i).getD a.toNat false=false:=by
      obtain ⟨A,rfl⟩:=Int.eq_ofNat_of_zero_le h3.1.1;simp only [Int.toNat_natCast] at h3⊢;unfold ft;by_cases hAV:A<V
      ·have:=hok.v24;rw [if_pos (by omega),ib V s f.nodes i A hAV];constructor
       ·rintro ⟨t,ht,hts⟩;simp at ht;subst ht;rw [xp,ek s A (by omega)] at hts;simpa using hts
       ·intro hb;exact ⟨2^A,by simp,by rw [xp,ek s A (by omega),hb];rfl⟩
      ·rw [if_neg (by omega),show ((A:Int) - (V:Int)).toNat=A - V by omega];have:=ih o (by omega) h1 (A - V) (by omega) (by rw [show V+(A - V)=A by omega];exact h3.2);rw [show V+(A - V)=A by omega] at this;exact this
     by_cases hu:up (ft V o a) (pt s)
     ·rw [if_pos hu,key.1 hu];simp;omega
     ·rw [if_neg hu];cases hv:(bw V s f.nodes i).getD a.toNat false with
      | false=>exact absurd (key.2 hv) hu
      | true=>simp;omega
   have hc:=hcnt f.nodes[i].args (fun a ha=>⟨hok.args i hkx a ha,hcl i hkx hm a ha⟩)
   rw [zA hl (hmono i hkx hm) (fun h4=>by
    have:=hok.arity i hkx;unfold jA at this;rw [if_neg (by omega),if_pos h4] at this;rw [List.length_map];split at this
    ·omega
    ·cases this) (pt s),hval,List.length_map]
   rw [show f.nodes[i].args.length - pu (pt s) (f.nodes[i].args.map (ft V o))=cS (bw V s f.nodes i) f.nodes[i].args by omega]
  ·split at h2
   ·obtain ⟨l,hl,h4⟩:=Option.map_eq_some_iff.1 h2;subst h4;rw [List.getD_eq_getElem?_getD,List.getElem?_set_ne (by omega),<-List.getD_eq_getElem?_getD];exact hold i (by omega) hm
   ·cases h2;exact hold i (by omega) hm
def fI (V:Nat) (mark:List Bool):Nat->Nat
 | 0=>0
 | k+1=>fI V mark k+if mark.getD (V+k) false=true then 1 else 0
def mU (V:Nat) (mark:List Bool) (a:Int):Int:=if a<V then a else ((V+fI V mark (a - V).toNat:Nat):Int)
def oU (V:Nat) (mark:List Bool) (x:Nd):Nd:=⟨x.kind,x.k,x.args.map (mU V mark)⟩
def aY (V:Nat) (mark:List Bool) (nodes:List Nd):Nat->List Nd
 | 0=>[]
 | k+1=>if mark.getD (V+k) false=true then aY V mark nodes k++[oU V mark (nodes.getD k bB)] else aY V mark nodes k
theorem gR (V:Nat) (mark:List Bool) (nodes:List Nd):∀ k,(aY V mark nodes k).length=fI V mark k:=by
 intro k;induction k with
 | zero=>rfl
 | succ k ih=>unfold aY fI;split <;> simp [ih]
theorem wX (V:Nat) (mark:List Bool):∀ k,fI V mark k<=k:=by
 intro k;induction k with
 | zero=>exact Nat.le_refl _
 | succ k ih=>unfold fI;split <;> omega
theorem xL (V:Nat) (mark:List Bool) {i:Nat}:∀ k,i<=k->fI V mark i<=fI V mark k:=by
 intro k;induction k with
 | zero=>intro h;rw [show i=0 by omega];exact Nat.le_refl _
 | succ k ih =>
  intro h;by_cases e:i=k+1
  ·rw [e];exact Nat.le_refl _
  ·have:=ih (by omega);rw [fI];omega
theorem wY (V:Nat) (mark:List Bool) {i k:Nat} (h:i<k) (hm:mark.getD (V+i) false=true):fI V mark i<fI V mark k:=by
 have h1:=xL V mark (i:=i+1) k h;rw [fI,if_pos hm] at h1;omega
def jN (V:Nat) (mark:List Bool) (out:List (List Nat)):Nat->List (List Nat)
 | 0=>[]
 | k+1=>if mark.getD (V+k) false=true then jN V mark out k++[out.getD k []] else jN V mark out k
theorem qt (V:Nat) (mark:List Bool) (out:List (List Nat)) (k:Nat):jN V mark out (k+1)=if mark.getD (V+k) false=true then jN V mark out k++[out.getD k []] else jN V mark out k:=rfl
theorem ot (V:Nat) (mark:List Bool) (out:List (List Nat)):∀ k,(jN V mark out k).length=fI V mark k:=by
 intro k;induction k with
 | zero=>rfl
 | succ k ih=>unfold jN fI;split <;> simp [ih]
theorem tx {V:Nat} {mark:List Bool} {out:List (List Nat)} {i:Nat} (hm:mark.getD (V+i) false=true):∀ k,i<k->(jN V mark out k).getD (fI V mark i) []=out.getD i []:=by
 intro k;induction k with
 | zero=>intro h;omega
 | succ k ih =>
  intro h;by_cases e:i=k
  ·subst e;unfold jN;rw [if_pos hm,List.getD_eq_getElem?_getD,List.getElem?_append_right (by rw [ot];exact Nat.le_refl _),ot,Nat.sub_self];rfl
  ·have h1:=ih (by omega);unfold jN;split
   ·rw [List.getD_eq_getElem?_getD,List.getElem?_append_left (by rw [ot];exact wY V mark (by omega) hm),<-List.getD_eq_getElem?_getD];exact h1
   ·exact h1
theorem BD {V:Nat} {mark:List Bool} {out:List (List Nat)} {j:Nat} {l:List Nat}:∀ k,k<=j->jN V mark (out.set j l) k=jN V mark out k:=by
 intro k;induction k with
 | zero=>intro _;rfl
 | succ k ih =>
  intro h;unfold jN;rw [ih (by omega)];split
  ·rw [List.getD_eq_getElem?_getD,List.getElem?_set_ne (by omega),<-List.getD_eq_getElem?_getD]
  ·rfl
def bz (V:Nat):List (List Nat):=(List.range V).map fun i=>[2^i]
theorem mW {V i:Nat} (h:i<V) (t:List (List Nat)):(bz V++t).getD i []=[2^i]:=by
 rw [List.getD_eq_getElem?_getD,List.getElem?_append_left (by simp [bz];exact h)];simp [bz,h]
theorem jQ {V i:Nat} (t:List (List Nat)):(bz V++t).getD (V+i) []=t.getD i []:=by
 rw [List.getD_eq_getElem?_getD,List.getElem?_append_right (by simp [bz]),List.getD_eq_getElem?_getD];simp [bz]
def fG (l:List (List Nat)) (x:Nd):Option (List (List Nat)):=(cI x.kind x.k (x.args.map fun a=>l.getD a.toNat [])).map fun r=>l++[r]
def f_ (V:Nat) (nodes:List Nd):Option (List (List Nat)):=nodes.foldlM fG (bz V)
theorem Ay {V:Nat} {mark:List Bool} {out:List (List Nat)} {k:Nat} (args:List Int) (h:∀ a∈args,(0<=a/\a<(V:Int)+k)/\mark.getD a.toNat false=true) :
  (args.map (mU V mark)).map (fun a=>(bz V++jN V mark out k).getD a.toNat [])=args.map (ft V out):=by
 rw [List.map_map];refine List.map_congr_left fun a ha=>?_
 obtain ⟨⟨h0,h1⟩,hm⟩:=h a ha;obtain ⟨A,rfl⟩:=Int.eq_ofNat_of_zero_le h0;simp only [Function.comp,mU,ft,Int.toNat_natCast] at hm⊢;by_cases hAV:A<V
 ·rw [if_pos (by omega),if_pos (by omega),Int.toNat_natCast,mW hAV]
 ·rw [if_neg (by omega),if_neg (by omega),Int.toNat_natCast,jQ,show ((A:Int) - (V:Int)).toNat=A - V by omega];exact tx (by rw [show V+(A - V)=A by omega];exact hm) k (by omega)
theorem Cr {V:Nat} {mark:List Bool} {nodes:List Nd} (hargs:∀ i (h:i<nodes.length),∀ a∈nodes[i].args,0<=a/\a<(V:Int)+i) (hcl:∀ i (hi:i<nodes.length),mark.getD (V+i) false=true->∀ a∈nodes[i].args,mark.getD a.toNat false=true) :
  ∀ k,k<=nodes.length->f_ V (aY V mark nodes k)=(dp V mark nodes k).map fun out=>bz V++jN V mark out k:=by
 intro k;induction k with
 | zero=>intro _;simp [f_,aY,dp,jN]
 | succ k ih =>
  intro hk;have ih:=ih (by omega);have hnd:nodes.getD k bB=nodes[k]:=by simp [List.getD_eq_getElem?_getD,show k<nodes.length by omega]
  unfold aY;by_cases hm:mark.getD (V+k) false=true
  ·rw [if_pos hm];unfold f_ at ih⊢;rw [List.foldlM_append,ih];show _=((dp V mark nodes k).bind fun out=>dV V mark nodes out k).map _;cases h1:dp V mark nodes k with
   | none=>rfl
   | some out =>
    have hol:=iR V mark nodes k out h1;simp only [Option.map_some,Option.bind_some,Option.bind_eq_bind,List.foldlM_cons,List.foldlM_nil];unfold fG dV;rw [if_pos hm,hnd];simp only [oU];rw [Ay _ (fun a ha=>⟨hargs k (by omega) a ha,hcl k (by omega) hm a ha⟩)];cases h2:cI nodes[k].kind nodes[k].k (nodes[k].args.map (ft V out)) with
    | none=>rfl
    | some l =>
     simp only [Option.map_some,Option.bind_some];rw [qt,if_pos hm,BD k (Nat.le_refl _),List.getD_eq_getElem?_getD,List.getElem?_set_self (by omega)];simp [List.append_assoc]
  ·rw [if_neg hm,ih];show _=((dp V mark nodes k).bind fun out=>dV V mark nodes out k).map _;cases h1:dp V mark nodes k with
   | none=>rfl
   | some out =>
    simp only [Option.map_some,Option.bind_some];unfold dV;rw [if_neg hm];simp only [Option.map_some];rw [qt,if_neg hm]
end Go.Proofs.YtofibjflkebkpaaGreatDoor
