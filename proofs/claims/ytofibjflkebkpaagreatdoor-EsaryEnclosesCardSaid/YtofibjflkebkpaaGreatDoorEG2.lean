import Derived.WalkKit
import Derived.WalkSpells
import Derived.WalkLawsBesides
import Derived.Deep.QuietTactic
import Derived.BigQuiet
import Derived.Lib.Hide
import Derived.Shelf.Abstract
import Derived.Deep.RegionWith
import Derived.Laws.AppendOwnNone
import Derived.Lib.AppendZerosOnto
import Derived.Lib.SliceRun
import Derived.Lib.SlicesCompact
import Derived.Shelf.SlSortCmp.NoneTotal
import Derived.Maps.OwnOps
import Derived.Maps.OwnSet
import Derived.Maps.Views
import Derived.Deep.MidRow
import Derived.Test.YtofibjflkebkpaaGreatDoorEG1
import Derived.Deep.RegionHeld3
import Derived.Deep.AppendLies
import Derived.Deep.RegionLaw
import Derived.IntWalk
import Derived.StillTailTactics
import Derived.RegionTactic
import Derived.BigRegion
import Derived.ChangeAlike
import Derived.Test.YtofibjflkebkpaaGreatDoorRows
import Derived.Sort.LotD2
import Derived.Sort.LotA
set_option maxRecDepth 100000
set_option maxHeartbeats 16000000
namespace Go.Proofs.YtofibjflkebkpaaGreatDoor
open Go.RowKit
theorem qd:(Tryz.prog.info? 106).map (fun i=>(i.zero,i.size,i.bytes))=some (some (.agg #[.int .i64 0,.int .i64 0,.slice none 0 0]),3,40):=by kernel_rfl
def wK (w:World) (v:Value) (ks:List Int):Prop :=
 ∃ (a:Option Addr) (c:Nat),v=.slice a ks.length c/\(ks.length<=c/\(a=none->c=0))/\ks.length<=140737488355328 /\
  ∀ i (h:i<ks.length),∃ b o,a=some ⟨b,o,none⟩/\∃ (u1:Int) (sa:Option Addr) (sn sc:Nat),w.cell? ⟨b,o+i*3,none⟩=some (.int .i64 ks[i])/\w.cell? ⟨b,o+i*3+1,none⟩=some (.int .i64 u1)/\w.cell? ⟨b,o+i*3+2,none⟩=some (.slice sa sn sc)
def cL (w:World) (B:Nat) (v:Value) (ks:List Int):Prop :=
 ∃ cells,w.ownsRow B 106 3 v ks.length cells/\ks.length<=100000/\∀ i (h:i<ks.length),cells[i*3]?=some (.int .i64 ks[i])/\∃ (u1:Int) (sa:Option Addr) (sn sc:Nat),cells[i*3+1]?=some (.int .i64 u1)/\cells[i*3+2]?=some (.slice sa sn sc)
theorem cL.at {w:World} {B:Nat} {v:Value} {ks:List Int} (h:cL w B v ks):wK w v ks:=by
 obtain ⟨cells,⟨h1,h2⟩,h3,h4⟩:=h;rcases h2 with ⟨rfl,h5⟩ | ⟨g,cap,cur,rfl,h5,h6,h7,h8,h9,h10⟩
 ·have:ks=[]:=List.eq_nil_of_length_eq_zero h5
  subst this;exact ⟨none,0,rfl,⟨by simp,fun _=>rfl⟩,by simp,fun i h=>by simp at h⟩
 ·refine ⟨_,cap,rfl,⟨h7,fun h=>by cases h⟩,by omega,fun i hi=>⟨g,0,rfl,?_⟩⟩
  have key:∀ j,j<ks.length*3->w.cell? ⟨g,j,none⟩=cells[j]?:=by
   intro j hj;have e1:(cur.toList.take (ks.length*3))[j]?=cells[j]?:=by rw [h10]
   rw [List.getElem?_take_of_lt hj] at e1;simp only [World.cell?,h6];simpa using e1
  obtain ⟨e0,u1,sa,sn,sc,e1,e2⟩:=h4 i hi;refine ⟨u1,sa,sn,sc,?_,?_,?_⟩
  ·rw [Nat.zero_add,key _ (by omega)];exact e0
  ·rw [Nat.zero_add,key _ (by omega)];exact e1
  ·rw [Nat.zero_add,key _ (by omega)];exact e2
def bL (V:Nat) (mark:List Bool) (nodes:List Nd):Nat->List Int
 | 0=>[]
 | k+1=>if mark.getD (V+k) false then bL V mark nodes k++[(nodes.getD k bB).kind] else bL V mark nodes k
theorem mK (V:Nat) (mark:List Bool) (nodes:List Nd) (k:Nat):(bL V mark nodes k).length<=k:=by
 induction k with
 | zero=>simp [bL]
 | succ k ih =>
  unfold bL;split
  ·simp;omega
  ·omega
structure TInv (w1 w3 wr:World) (g V n:Nat) (ov:Value) (tl:List Int) (ks:List Int) (mark:List Bool):Prop where
 tlen:tl.length=V+n
 row:ai wr (w1.heap.size+1) 3 (tl.map (.int .i64))
 box:ai wr w1.heap.size 41 [.int .i64 V,ov,.int .i64 0]
 own:cL wr w3.heap.size ov ks
 marks:ai wr g 4 (mark.map .bool)
 kept:af w1 wr
 size:w3.heap.size<=wr.heap.size
def xB (V n k:Nat):List Int:=(List.range k).map (fun i:Nat=>(i:Int))++List.replicate (V+n - k) 0
theorem t_ (V n k:Nat) (h:k<V):(xB V n k).set k (k:Int)=xB V n (k+1):=by
 unfold xB;rw [List.set_append_right _ _ (by simp),List.range_succ,List.map_append,show V+n - k=(V+n - (k+1))+1 by omega,List.replicate_succ];simp
theorem nI (V n k:Nat) (h:k<=V):(xB V n k).length=V+n:=by simp [xB];omega
theorem rV {wo wr w5:World} {kd kk z:Int} {uv nv:Value} {ys:List Int} {o:Obj} (hown:OwnInts wr (wo.heap.size+2) uv ys) (hrow:ai wr (wo.heap.size+1) 106 [.int .i64 kd,.int .i64 kk,uv]) (hK:af wo wr) (hsz:wo.heap.size+2<=wr.heap.size) (hys:ys.length<=1000)
  (h5:w5.ownsRow (wo.heap.size+2) 3 1 nv (ys.length+1) (ys.map (Value.int .i64)++[.int .i64 z])) (hg:(wr.alloc o).grownBy w5 uv.ownBlock) :
  OwnInts (w5.setCell ⟨wo.heap.size+1,2,none⟩ nv) (wo.heap.size+2) nv (ys++[z])/\ai (w5.setCell ⟨wo.heap.size+1,2,none⟩ nv) (wo.heap.size+1) 106 [.int .i64 kd,.int .i64 kk,nv]/\af wo (w5.setCell ⟨wo.heap.size+1,2,none⟩ nv)/\wo.heap.size+2<=(w5.setCell ⟨wo.heap.size+1,2,none⟩ nv).heap.size:=by
 have hne:some (wo.heap.size+1)≠uv.ownBlock:=by
  intro e;have:=(hown.1.lt _ e.symm).1;omega
 have hb:w5.heap[wo.heap.size+1]?=wr.heap[wo.heap.size+1]?:=(hg.block _ (by simp;omega) hne).trans (Below.heap_alloc wr o _ (by omega));have hbel:=bf hg (hown.1.alloc o) (by simp;omega);have hk5:af wo w5:=(hK.alloc o).app (hbel.mono (by omega));refine ⟨⟨?_,by simp;omega⟩,?_,hk5.store (by omega) _ _,?_⟩
 ·have:=ownsRow_setCell_below h5 (a:=⟨wo.heap.size+1,2,none⟩) (by show wo.heap.size+1<_;omega) nv;simpa using this
 ·have:=(hrow.same hb).store 2 nv;simpa using this
 ·have h1:=hbel.size;simp at h1;simp [World.setCell];omega
theorem mS {w:World} {b o:Nat} {cs:List Value} (h:w.rangeAt b o cs) {p:Nat} (hp:b≠p) (i:Nat) (u:Value):(w.setCell ⟨p,i,none⟩ u).rangeAt b o cs :=
 fun j v hj=>jX (h j v hj) hp i u
theorem zW {ops:Array Oper} {rest:List Oper} {o:Oper} {a:Act} {Q:Exit->Act->World->Prop} {w:World} (hgd:o.guard=none) (s x:Operand)
  (ho:o.op=.call { callee:=.builtin .append,args:=#[s,x],argTypes:=#[39,39] }) (B:Nat) (v:Value) (ks:List Int) (hs:a.eval s=v) (hown:cL w B v ks)
  (g:Nat) (kd x1:Int) (sa:Option Addr) (sn sc:Nat) (hx:a.eval x=.slice (some ⟨g,0,none⟩) 1 1) (hc:w.rangeAt g 0 [.int .i64 kd,.int .i64 x1,.slice sa sn sc]) (hl:ks.length<100000) (hB:B<=w.heap.size)
  (h:∀ v' w',cL w' B v' (ks++[kd])->w.grownBy w' v.ownBlock->Below B w w'->wpList Tryz.prog ops Q rest (a.put o.dst v') w'):wpList Tryz.prog ops Q (o :: rest) a w:=by
 obtain ⟨i0,hi0,hz0,hz1,hz2⟩:=info_parts qd;obtain ⟨cells,hown1,hkl,hcell⟩:=hown;refine wpList_append_own _ hgd s x 39 ho B 106 i0 _ 3 40 Tryz.underlying39 hi0 hz0 hz1 hz2 rfl (by decide) v ks.length cells hs hown1 ⟨g,0,none⟩ 1 1 [.int .i64 kd,.int .i64 x1,.slice sa sn sc] hx rfl ?_ ?_ (by unfold maxLen;omega) (by omega) hB ?_
 ·intro j u hj;have:=hc j u hj;rw [Addr.add_mid];exact this
 ·intro u hu;simp at hu;rcases hu with rfl | rfl | rfl <;> rfl
 ·intro v' w' h3 h4 _;refine h v' w' ⟨cells++[.int .i64 kd,.int .i64 x1,.slice sa sn sc],by simpa using h3,by simp;omega,?_⟩ h4 (bf h4 hown1 hB);intro i hi;simp at hi;have hcl:cells.length=ks.length*3:=hown1.1;by_cases hik:i<ks.length
  ·obtain ⟨e0,u1,ua,un,uc,e1,e2⟩:=hcell i hik;refine ⟨?_,u1,ua,un,uc,?_,?_⟩
   ·rw [List.getElem?_append_left (by omega),e0,List.getElem_append_left hik]
   ·rw [List.getElem?_append_left (by omega),e1]
   ·rw [List.getElem?_append_left (by omega),e2]
  ·have e:i=ks.length:=by omega
   subst e;refine ⟨?_,x1,sa,sn,sc,?_,?_⟩
   ·rw [List.getElem?_append_right (by omega),hcl];simp
   ·rw [List.getElem?_append_right (by omega),hcl];simp
   ·rw [List.getElem?_append_right (by omega),hcl];simp
theorem oQ (w:World) (x0 x1 x2:Value) (e:TypeId):(w.alloc (.cells #[x0,x1,x2] e)).rangeAt w.heap.size 0 [x0,x1,x2]:=by
 have h:=ai.made w #[x0,x1,x2] e;intro j v hj
 match j,hj with
 | 0,hj=>simp at hj;subst hj;exact h.cell (i:=0) (by simp)
 | 1,hj=>simp at hj;subst hj;exact h.cell (i:=1) (by simp)
 | 2,hj=>simp at hj;subst hj;exact h.cell (i:=2) (by simp)
theorem oh {w:World} {a:Addr} (h:w.frozen? a=false) {p:Nat} (hp:a.block≠p) (i:Nat) (u:Value):(w.setCell ⟨p,i,none⟩ u).frozen? a=false :=
 (World.frozen?_of_block (w:=w) (Below.heap_setCell w ⟨p,i,none⟩ u a.block hp)).trans h
theorem af.free {w w':World} (h:af w w') {p:Addr} (hp:p.block<w.heap.size) (hf:w.frozen? p=false):w'.frozen? p=false:=(Below.frozen h hp).trans hf
theorem mR (w:World) (a:Addr) (u x0 x1 x2:Value) (e:TypeId):((w.setCell a u).alloc (.cells #[x0,x1,x2] e)).rangeAt w.heap.size 0 [x0,x1,x2]:=by
 have h:=oQ (w.setCell a u) x0 x1 x2 e
 rwa [show (w.setCell a u).heap.size=w.heap.size by simp [World.setCell]] at h
theorem cL.kept {w w':World} {B:Nat} {v:Value} {ks:List Int} (h:cL w B v ks) (hk:af w w'):cL w' B v ks:=by
 obtain ⟨cells,h1,h2⟩:=h;exact ⟨cells,eF h1 hk,h2⟩
theorem cL.below {w:World} {B:Nat} {v:Value} {ks:List Int} (h:cL w B v ks) {a:Addr} (ha:a.block<B) (u:Value):cL (w.setCell a u) B v ks:=by
 obtain ⟨cells,h1,h2⟩:=h;exact ⟨cells,ownsRow_setCell_below h1 ha u,h2⟩
theorem AK {w1 w3 wo wr w6:World} {g V n k:Nat} {ov nv:Value} {tl ks:List Int} {R:List Bool} {kd t:Int} {cs:Array Value} (hI:TInv w1 w3 wo g V n ov tl ks R) (hK:af wo wr) (h1:w1.heap.size+1<w3.heap.size) (hg:w1.heap.size+1<g) (hg3:g<w3.heap.size)
  (h6:cL w6 w3.heap.size nv (ks++[kd])) (hg6:((wr.setCell ⟨w1.heap.size+1,k,none⟩ (.int .i64 t)).alloc (.cells cs 106)).grownBy w6 ov.ownBlock) :
  TInv w1 w3 (w6.setCell ⟨w1.heap.size,1,none⟩ nv) g V n nv (tl.set k t) (ks++[kd]) R:=by
 have hs:=hK.size;have hs3:=hI.size
 have hown:∀ j,j<w3.heap.size->some j≠ov.ownBlock:=by
  intro j hj e;obtain ⟨cells,ho,_⟩:=hI.own;have:=(ho.lt _ e.symm).1;omega
 have hb:∀ j,j<w3.heap.size->w6.heap[j]?=(wr.setCell ⟨w1.heap.size+1,k,none⟩ (.int .i64 t)).heap[j]?:=by
  intro j hj;have l1:(wr.setCell ⟨w1.heap.size+1,k,none⟩ (.int .i64 t)).heap.size=wr.heap.size:=by simp [World.setCell]
  exact (hg6.block j (by simp;omega) (hown j hj)).trans (Below.heap_alloc _ _ j (by omega))
 have hrow:=(hI.row.kept hK).store k (.int .i64 t);rw [<-List.map_set] at hrow;have hbox:=((hI.box.kept hK).other (p:=w1.heap.size+1) (by omega) k (.int .i64 t));have hmk:=((hI.marks.kept hK).other (p:=w1.heap.size+1) (by omega) k (.int .i64 t));refine ⟨by rw [List.length_set];exact hI.tlen,?_,?_,h6.below (by show w1.heap.size<_;omega) _,?_,?_,?_⟩
 ·exact (hrow.same (hb _ (by omega))).other (by omega) _ _
 ·have:=(hbox.same (hb _ (by omega))).store 1 nv;simpa using this
 ·exact (hmk.same (hb _ (by omega))).other (by omega) _ _
 ·have l1:(wr.setCell ⟨w1.heap.size+1,k,none⟩ (.int .i64 t)).heap.size=wr.heap.size:=by simp [World.setCell]
  have k1:af w1 (wr.setCell ⟨w1.heap.size+1,k,none⟩ (.int .i64 t)):=(hI.kept.trans hK).store (by omega) _ _;have k2:af w1 w6:=(k1.alloc _).app ⟨hg6.os,hg6.tape,hg6.output,hg6.size,fun j hj=>hg6.block j (by simp;omega) (hown j (by omega))⟩;exact k2.store (Nat.le_refl _) _ _
 ·have l1:(wr.setCell ⟨w1.heap.size+1,k,none⟩ (.int .i64 t)).heap.size=wr.heap.size:=by simp [World.setCell]
  have:=hg6.size;simp at this;simp [World.setCell] at this⊢;omega
theorem Cv (v:Value) (f:Fm) (V T:Nat) (w:World) (hv:aG w v f.nodes) (hok:Ok f V T) (hck:di f=0) :
  Calls Tryz.prog 81 #[.agg #[.int .i64 V,v,.int .i64 T]] w fun e w'=>∃ tv,∃ top:Int,e=.returned (.tuple #[.agg #[.int .i64 V,tv,.int .i64 top],.nilIface])/\wK w' tv (bL V (aQ V T f.nodes) f.nodes f.nodes.length)/\af w w':=by
 have hchk:=dE v f w hv (by rw [hok.top];have:=hok.tlt;have:=hok.n128;have:=hok.v24;omega);rw [hck] at hchk;unfold jo at hchk;rw [hok.vars,hok.top] at hchk;have HCH:=ae (fun W (hk:af w W)=>dE v f W (hv.kept hk) (by rw [hok.top];have:=hok.tlt;have:=hok.n128;have:=hok.v24;omega));have HBL:=ae (fun W (hk:af w W)=>pK v f V T W (hv.kept hk) hok);have HV:=ae hv;obtain ⟨a,c,rfl,_,hl,hx⟩:=hv;obtain ⟨n,hn⟩:∃ n,n=f.nodes.length:=⟨_,rfl⟩;rw [<-hn] at hl HCH HBL;have hn9:n<=128:=by rw [hn];exact hok.n128
 have hV9:=hok.v24;have hT9:T<V+n:=by rw [hn];exact hok.tlt
 have E1:=ae (show jo (.slice a n c) f=.agg #[.int .i64 V,.slice a n c,.int .i64 T] by unfold jo;rw [hok.vars,hok.top]);have hch2:∀ W,af w W->Calls Tryz.prog 30 #[.agg #[.int .i64 V,.slice a n c,.int .i64 T]] W fun e w'=>e=.returned (aV (di f))/\af W w':=fun W hk=>by have:=HCH.out W hk;rw [E1.out] at this;exact this
 have HCH2:=ae hch2;clear hch2;clear HCH E1;have E2:=ae (show aV (di f)=.nilIface by rw [hck];rfl);have HX:=ae hx;have HN:=ae hn;have HO:=ae hok;rw [<-hn];clear hx hn hok hl hck hchk;go_enter Tryz.func81,Tryz.ntmps81
 go_wp2_with (first
  | (go_at_call 30;refine (HCH2.out _ (((af.refl _).alloc _).alloc _)).mono ?_;rintro e w1 ⟨rfl,hk1⟩;rw [E2.out];have hs1:=hk1.size;simp only [World.size_alloc] at hs1;have ls0:w.heap.size<w1.heap.size:=(by omega);have ls1:w.heap.size+1<w1.heap.size:=(by omega);have b0:=hk1.cell (p:=⟨w.heap.size,0,none⟩) (v:=.int .i64 V) (by simp);have b1:=hk1.cell (p:=⟨w.heap.size,1,none⟩) (v:=.slice a n c) (by simp);have b2:=hk1.cell (p:=⟨w.heap.size,2,none⟩) (v:=.int .i64 T) (by simp))
  | (at_make;refine db 22 3 _ 8 fw Tryz.underlying22 rfl rfl _ _ rfl (V+n) (by show Value.int .i64 ((V:Int)+(n:Int))=.int .i64 ((V+n:Nat):Int);rw [Int.natCast_add]) (by show Value.int .i64 ((V:Int)+(n:Int))=.int .i64 ((V+n:Nat):Int);rw [Int.natCast_add]) (by omega) (by unfold maxLen;omega) ?_;intro w2 hr2 hk2;simp only [World.size_alloc] at hr2;have HR2:=ae hr2;clear hr2;have hk02:=(hk1.trans ((af.refl _).alloc _)).trans hk2;have d0:=hk02.cell (p:=⟨w.heap.size,0,none⟩) (v:=.int .i64 V) (by simp)))
 go_loopw [7,32] (fun _ i wr=>∃ k:Nat,k<=V/\i=.int .i64 k/\ai wr (w1.heap.size+1) 3 ((xB V n k).map (.int .i64))/\af (w1.alloc (.cells #[.int .i64 V,.slice none 0 0,.int .i64 0] 41)) wr) (fun _ i _=>V - (intOf i).toNat)
 case atStart=>exact ⟨0,Nat.zero_le _,rfl,by simpa [xB] using HR2.out,hk2⟩
 case round =>
  clear hk2;obtain ⟨k,hk,rfl,hrow,hK⟩:=hrel;by_cases hlt:k<V
  ·have cY:=hrow.cell (i:=k) (by rw [List.length_map,nI V n k hk];omega);have fY:=hrow.free k;have hnew:=hrow.store k (.int .i64 k);have hKn:=hK.store (g:=w1.heap.size+1) (by simp) k (.int .i64 k);have hY1:(k:Int)<(V:Int)+(n:Int):=by omega
   have hY2:(k:Int)<((V+n:Nat):Int):=by omega
   rw [<-List.map_set,t_ V n k hlt] at hnew;have HNW:=ae hnew;have HKN:=ae hKn;clear hnew hKn hrow hK;go_wp2;go_roundw
   case rel=>exact ⟨k+1,by omega,by go_num,HNW.out,HKN.out⟩
   case measure=>simp [intOf];omega
  ·have e:k=V:=by omega
   have htl:=nI V n k hk;obtain ⟨tl,htle⟩:∃ tl,tl=xB V n k:=⟨_,rfl⟩;rw [<-htle] at hrow htl;have hkw:=(hk1.trans ((af.refl _).alloc _)).trans hK;have hkW:af w wr:=(((af.refl w).alloc _).alloc _).trans hkw;have q0:=hkw.cell (p:=⟨w.heap.size,0,none⟩) (v:=.int .i64 V) (by simp);have q1:=hkw.cell (p:=⟨w.heap.size,1,none⟩) (v:=.slice a n c) (by simp);have q2:=hkw.cell (p:=⟨w.heap.size,2,none⟩) (v:=.int .i64 T) (by simp);have hlt1:=hrow.lt;have HRO:=ae hrow;have HKK:=ae hK;have HKW:=ae hkW;have hVn:(V:Int)<=(V:Int)+(n:Int):=by omega
   have hVn2:(V:Int)<=((V+n:Nat):Int):=by omega
   clear e hrow hkw hkW hK htle;go_wp2
   go_region_held3 (fun w'=>w'.cell? ⟨w.heap.size,0,none⟩=some (.int .i64 V)/\w'.cell? ⟨w.heap.size,1,none⟩=some (.slice a n c)/\w'.cell? ⟨w.heap.size,2,none⟩=some (.int .i64 T))
    (first | go_keep | exact ⟨hk3.cell q0,hk3.cell q1,hk3.cell q2⟩)
    (first | (go_at_call 136;refine (HBL.out _ (HKW.out.drew)).mono ?_;rintro e w3 ⟨g,rfl,hg,hr3,hk3⟩))
   obtain ⟨R,hR⟩:∃ R,R=aQ V T f.nodes:=⟨_,rfl⟩;rw [<-hR] at hr3;have HR3:=ae hr3;have HRe:=ae hR;have HG3:g<w3.heap.size:=HR3.out.lt;have hg2:w1.heap.size+1<g:=by have h9:wr.heap.size<=g:=hg;omega
   have hkw3:af (w1.alloc (.cells #[.int .i64 V,.slice none 0 0,.int .i64 0] 41)) w3:=HKK.out.trans ((af.refl wr).drew.trans hk3);have hinv0:TInv w1 w3 w3 g V n (.slice none 0 0) tl [] R:=⟨htl,HRO.out.kept ((af.refl wr).drew.trans hk3),(ai.made w1 _ _).kept hkw3,⟨[],World.ownsRow_nil _ _ _ _,by simp,fun i h=>by simp at h⟩,HR3.out,((af.refl w1).alloc _).trans hkw3,Nat.le_refl _⟩;have HI0:=ae hinv0;have HKW1:=ae hk1;clear hR hr3 hinv0 hkw3 hk3 q0 q1 q2 HRO HKK hg;by_cases hn0:n=0
   ·subst hn0;have hkW2:=HKW1.out.trans HI0.out.kept;have hbx:=HI0.out.box;have d0:=hkW2.cell (p:=⟨w.heap.size,0,none⟩) (v:=.int .i64 V) (by simp);have d2:=hkW2.cell (p:=⟨w.heap.size,2,none⟩) (v:=.int .i64 T) (by simp);have c0:=hbx.cell (i:=0) (by simp);have c1:=hbx.cell (i:=1) (by simp);have c2:=hbx.cell (i:=2) (by simp);have f2:=hbx.free 2;have hTl:T<tl.length:=by rw [HI0.out.tlen];omega
    obtain ⟨zt,cT⟩:∃ z:Int,w3.cell? ⟨w1.heap.size+1,T,none⟩=some (.int .i64 z):=⟨tl[T],by have:=HI0.out.row.cell (i:=T) (by simpa using hTl);rw [List.getElem_map] at this;exact this⟩;have hY1:(T:Int)<(V:Int):=by omega
    have hres:ai w3 (w.heap.size+1) 41 [.int .i64 0,.slice none 0 0,.int .i64 0]:=by
     have:=(ai.made (w.alloc (.cells #[.int .i64 V,.slice a 0 c,.int .i64 T] 41)) #[.int .i64 0,.slice none 0 0,.int .i64 0] 41).kept hkW2;simpa using this
    have r0:=hres.cell (i:=0) (by simp);have r1:=hres.cell (i:=1) (by simp);have r2:=hres.cell (i:=2) (by simp);have s0:=hres.free 0;have s1:=hres.free 1;have s2:=hres.free 2;simp only [List.getElem_cons_succ,List.getElem_cons_zero] at r0 r1 r2 c0 c1 c2;have ne1:w1.heap.size≠w.heap.size+1:=by omega
    have ne2:w.heap.size+1≠w1.heap.size:=by omega
    clear hbx hres;go_wp2;refine wp_loop_rounds 1 ?_;rw [rounds_succ];go_wp2;refine bodyPost_ret (v:=.tuple #[.agg #[.int .i64 V,.slice none 0 0,.int .i64 zt],.nilIface]) ?_ rfl ⟨_,_,rfl,?_,?_⟩
    ·simp [results,Tryz.results81,go_sem,r0,r1,r2]
    ·exact ⟨none,0,rfl,⟨by simp [bL],fun _=>rfl⟩,by simp [bL],fun i h=>by simp [bL] at h⟩
    ·have hkA:af w w3:=(((af.refl w).alloc _).alloc _).trans hkW2;exact (((hkA.store (by omega) _ _).store (by omega) _ _).store (by omega) _ _).store (by omega) _ _
   ·have hn1:0<n:=by omega
    have hn2:V<V+n:=by omega
    go_wp2;go_loopw [8,9,10,11,13,46,66] (fun _ _ _ _ _ i _ wr=>∃ (k:Nat) (ov:Value) (tl:List Int),k<=n/\i=.int .i64 k/\TInv w1 w3 wr g V n ov tl (bL V R f.nodes k) R) (fun _ _ _ _ _ i _ _=>n - (intOf i).toNat)
    case atStart=>exact ⟨0,_,tl,Nat.zero_le _,rfl,HI0.out⟩
    case round =>
     obtain ⟨k,ov,tl,hk,rfl,hinv⟩:=hrel;have hkW2:=HKW1.out.trans hinv.kept;have q0:=hkW2.cell (p:=⟨w.heap.size,0,none⟩) (v:=.int .i64 V) (by simp);have q1:=hkW2.cell (p:=⟨w.heap.size,1,none⟩) (v:=.slice a n c) (by simp);have q2:=hkW2.cell (p:=⟨w.heap.size,2,none⟩) (v:=.int .i64 T) (by simp);by_cases hlt:k<n
     ·have hRl:R.length=V+n:=by rw [HRe.out,om,HN.out]
      have cm:=hinv.marks.cell (i:=V+k) (by simp;omega);rw [er R (V+k) (by omega)] at cm;have hup:bL V R f.nodes (k+1)=if R.getD (V+k) false then bL V R f.nodes k++[(f.nodes.getD k bB).kind] else bL V R f.nodes k:=rfl
      have HUP:=ae hup;clear hup;cases hmk:R.getD (V+k) false with
      | false =>
       rw [hmk] at cm;have HMK:=ae hmk;have HI:=ae hinv;clear hmk hinv hkW2;go_wp2;go_roundw
       case rel=>exact ⟨k+1,ov,tl,by omega,by go_num,by rw [HUP.out,HMK.out];exact HI.out⟩
       case measure=>simp [intOf];omega
      | true =>
       rw [hmk] at cm;have HMK:=ae hmk;have HI:=ae hinv;clear hmk hinv;have hkx:k<f.nodes.length:=by have:=HN.out;omega
       obtain ⟨b,o,rfl,u,hc1,hc2,hc3,hI⟩:=HX.out k hkx;have hkA:af w wr:=(((af.refl w).alloc (.cells #[.int .i64 V,.slice (some ⟨b,o,none⟩) n c,.int .i64 T] 41)).alloc (.cells #[.int .i64 0,.slice none 0 0,.int .i64 0] 41)).trans hkW2;have hrange:=d_ (hkA.cell hc1) (hkA.cell hc2) (hkA.cell hc3);obtain ⟨ax,cx,rfl,_,hlx,hcx⟩:=hI;have HRG:=ae hrange;clear hc1 hc2 hc3 hrange;go_wp2_with (with_reducible refine wpList_load_mid rfl 106 _ rfl b (o+k*3) rfl _ _ HRG.out Tryz.underlying106 rfl (by kernel_rfl) ?_);obtain ⟨kd,hkd⟩:∃ x,x=f.nodes[k].kind:=⟨_,rfl⟩;obtain ⟨kk,hkk⟩:∃ x,x=f.nodes[k].k:=⟨_,rfl⟩;have hargs:=HO.out.args k hkx;have h16:=jh (HO.out.argc k hkx);obtain ⟨args,hag⟩:∃ x,x=f.nodes[k].args:=⟨_,rfl⟩;rw [<-hag] at hcx hargs hlx h16;rw [<-hkd,<-hkk,<-hag];obtain ⟨na,hna⟩:∃ x,x=args.length:=⟨_,rfl⟩;rw [<-hna] at hlx h16⊢;have HKD:=ae hkd;have HCX:=ae hcx;have HAR:=ae hargs;have HNA:=ae hna;have HKA:=ae hkA;obtain ⟨i0,hi0,hz0,hz1,hz2⟩:=info_parts fw;have I0:=ae hi0;have I1:=ae hz0;have I2:=ae hz1;have I3:=ae hz2;have sz1:w1.heap.size+1<wr.heap.size:=HI.out.row.lt;obtain ⟨wo,rfl⟩:∃ wo:World,wo=wr:=⟨_,rfl⟩;clear hkd hkk hag hcx hargs hna hkA hkW2 hi0 hz0 hz1 hz2 q0 q1 q2 cm;go_loopw [13,66] (fun _ j wi=>∃ (p:Nat) (uv:Value) (ys:List Int),p<=na/\j=.int .i64 p/\ys.length<=p/\OwnInts wi (wo.heap.size+2) uv ys/\ai wi (wo.heap.size+1) 106 [.int .i64 kd,.int .i64 kk,uv]/\af wo wi/\wo.heap.size+2<=wi.heap.size) (fun _ j _=>na - (intOf j).toNat)
       case atStart=>exact ⟨0,.slice none 0 0,[],Nat.zero_le _,rfl,by simp,OwnInts.nil _ _,by have:=ai.made (wo.alloc (.cells #[.int .i64 kd,.int .i64 kk,.slice ax na cx] 106)) #[.int .i64 kd,.int .i64 kk,.slice none 0 0] 106;simpa using this,((af.refl _).alloc _).alloc _,by simp⟩
       case round =>
        obtain ⟨p,uv,ys,hp,rfl,hys,hown,hrow,hK,hsz⟩:=hrel;by_cases hpn:p<na
        ·have hpx:p<args.length:=by have:=HNA.out;omega
         obtain ⟨b2,o2,rfl,hc0⟩:=HCX.out p hpx;have hcell:=(HKA.out.trans hK).cell hc0;obtain ⟨y,hy⟩:∃ y,y=args[p]:=⟨_,rfl⟩;have hy2:=HAR.out args[p] (List.getElem_mem _);rw [<-hy] at hcell hy2;obtain ⟨Y,hY⟩:=Int.eq_ofNat_of_zero_le hy2.1;subst hY;have hYl:Y<tl.length:=by rw [HI.out.tlen];omega
         have cT:=hK.cell (HI.out.row.cell (i:=Y) (by simpa using hYl));obtain ⟨z,hz⟩:∃ z,z=tl[Y]:=⟨_,rfl⟩;simp only [List.getElem_map] at cT;rw [<-hz] at cT;have hY1:(Y:Int)<(V:Int)+(n:Int):=by omega
         have hY2:(Y:Int)<((V+n:Nat):Int):=by omega
         have cB:=hrow.cell (i:=2) (by simp);have fB:=hrow.free 2;simp only [List.getElem_cons_succ,List.getElem_cons_zero] at cB;have hszi:wo.heap.size+1<wr.heap.size:=by omega
         have hszj:w1.heap.size+1<wr.heap.size:=by omega
         have HOWN:=ae hown;have HROW:=ae hrow;have HK:=ae hK
         have hfar:some (wo.heap.size+1)≠uv.ownBlock:=by
          intro e;have:=(hown.1.lt _ e.symm).1;omega
         have HFAR:=ae hfar;clear hc0 hy hz hown hrow hK hfar;go_wp2;go_region_law ((refine step_append_lies _ (by rfl) _ _ _ (by rfl) (wo.heap.size+2) 3 i0 _ 1 8 Tryz.underlying22 I0.out I1.out I2.out I3.out rfl (by omega) uv ys.length _ (by rfl) ((HOWN.out.1.alloc _).drew) ⟨wr.heap.size,0,none⟩ 1 1 [.int .i64 z] (by rfl) (by rfl) (World.news_of_block (cs:=#[.int .i64 z]) (t:=3) (fr:=(0,0)) (heap_alloc_new wr _)) (by simp [Value.oneCell']) (by omega) (by unfold maxLen;omega) (by omega) (by simp;omega) (wr.heap.size+1) (by simp) ?_;intro gg cap w5 hown5 hgrow hat hlt5;have st5:=hgrow.cell (a:=⟨wo.heap.size+1,2,none⟩) (v:=uv) (((af.refl wr).alloc _).cell cB) HFAR.out;have sf5:=(World.frozen?_of_block (a:=⟨wo.heap.size+1,2,none⟩) (hgrow.block (wo.heap.size+1) (by simp;omega) HFAR.out)).trans ((Below.frozen ((af.refl wr).alloc _) (p:=⟨wo.heap.size+1,2,none⟩) (by simp;omega)).trans fB)));all_goals go_wp2
         all_goals
          have R:=rV (o:=.cells #[.int .i64 z] 3) HOWN.out HROW.out HK.out hsz (by omega) hown5 ⟨hgrow.os,hgrow.tape,hgrow.output,hgrow.size,hgrow.block⟩;go_roundw
          case rel=>exact ⟨p+1,_,_,by omega,by go_num,by simp;omega,R.1,R.2.1,R.2.2.1,R.2.2.2⟩
          case measure=>simp [intOf];omega
        ·obtain ⟨ks,hks⟩:∃ ks,ks=bL V R f.nodes k:=⟨_,rfl⟩;have hkl:=mK V R f.nodes k;rw [<-hks] at HI HUP hkl;have HKL:=ae (show ks.length<100000 by omega);have hkc:=(HKW1.out.trans HI.out.kept).trans hK;have q0:=hkc.cell (p:=⟨w.heap.size,0,none⟩) (v:=.int .i64 V) (by simp);have hbx:=HI.out.box.kept hK;have c5:=hbx.cell (i:=1) (by simp);have f5:=hbx.free 1;have hrt:=HI.out.row.kept hK;have cT:=hrt.cell (i:=V+k) (by simp [HI.out.tlen];omega);have fT:=hrt.free (V+k);have hY1:(V:Int)+(k:Int)<(V:Int)+(n:Int):=by omega
         have hY2:(V:Int)+(k:Int)<((V+n:Nat):Int):=by omega
         have szz:w1.heap.size<wr.heap.size:=by omega
         have hrng:wr.rangeAt (wo.heap.size+1) 0 [.int .i64 kd,.int .i64 kk,uv]:=by
          intro j v hj
          match j,hj with
          | 0,hj=>simp at hj;subst hj;exact hrow.cell (i:=0) (by simp)
          | 1,hj=>simp at hj;subst hj;exact hrow.cell (i:=1) (by simp)
          | 2,hj=>simp at hj;subst hj;exact hrow.cell (i:=2) (by simp)
         simp only [List.getElem_cons_succ,List.getElem_cons_zero] at c5;obtain ⟨oa,oc,hov,_⟩:=HI.out.own.at;subst hov;obtain ⟨on,hon⟩:∃ on,on=ks.length:=⟨_,rfl⟩;rw [<-hon] at HI c5 hbx hkl;obtain ⟨ua,un,uc,huv⟩:=hown.ints.shape;subst huv;have HRNG:=ae (fun x=>mS hrng (p:=w1.heap.size+1) (by omega) (V+k) x);have HRT:=ae hrt;have HBX:=ae hbx;have HK:=ae hK;have HON:=ae hon;clear hrng hrt hbx hK hkc hks hrow hown hon;have g3:g<w3.heap.size:=HG3;have g4:w1.heap.size+1<w3.heap.size:=by omega
         have hok1:=(HI.out.own.kept HK.out);have HOK1:=ae (fun x=>(hok1.below (a:=⟨w1.heap.size+1,V+k,none⟩) (by show w1.heap.size+1<_;omega) x).kept ((af.refl _).alloc (.cells #[.int .i64 kd,.int .i64 kk,.slice ua un uc] 106)))
         have hne5:some w1.heap.size≠(Value.slice oa on oc).ownBlock:=by
          intro e;obtain ⟨cells,ho,_⟩:=HI.out.own;have:=(ho.lt _ e.symm).1;omega
         have HNE5:=ae hne5;have hw3r:w3.heap.size<=wr.heap.size:=Nat.le_trans HI.out.size HK.out.size;clear hok1 hne5
         go_wp2_with (first
          | (with_reducible refine wpList_load_mid rfl 106 _ rfl (wo.heap.size+1) 0 rfl _ _ (HRNG.out _) Tryz.underlying106 rfl (by kernel_rfl) ?_)
          | (at_builtin;refine zW rfl _ _ rfl w3.heap.size _ ks rfl (HOK1.out _) _ kd kk ua un uc rfl (mR _ _ _ _ _ _ _) HKL.out (by simp [World.setCell];omega) ?_;intro nv w6 hown6 hg6 hb6;obtain ⟨xa,xc,rfl,_⟩:=hown6.at;have HOWN6:=ae hown6;clear hown6;have st5:=hg6.cell (a:=⟨w1.heap.size,1,none⟩) (v:=.slice oa on oc) (((af.refl _).alloc _).cell (jX c5 (p:=w1.heap.size+1) (by show w1.heap.size≠_;omega) _ _)) HNE5.out;have sf5:=(World.frozen?_of_block (a:=⟨w1.heap.size,1,none⟩) (hg6.block w1.heap.size (by simp [World.setCell];omega) HNE5.out)).trans (((af.refl _).alloc _).free (p:=⟨w1.heap.size,1,none⟩) (by simp [World.setCell];omega) (oh f5 (p:=w1.heap.size+1) (by show w1.heap.size≠_;omega) _ _))))
         have RI:=AK (kd:=kd) (t:=(V:Int)+(on:Int)) HI.out HK.out g4 hg2 g3 HOWN6.out ⟨hg6.os,hg6.tape,hg6.output,hg6.size,hg6.block⟩;rw [show (ks++[kd]).length=ks.length+1 by simp] at RI;go_roundw
         case rel=>exact ⟨k+1,_,_,by omega,by go_num,by rw [HUP.out,HMK.out,if_pos rfl,show (f.nodes.getD k bB).kind=kd by rw [HKD.out];simp [List.getD_eq_getElem?_getD,hkx]];exact RI⟩
         case measure=>simp [intOf];omega
     ·have e:k=n:=by omega
      subst e;obtain ⟨oa,oc,hov,_⟩:=hinv.own.at;subst hov;have hbx:=hinv.box;have c0:=hbx.cell (i:=0) (by simp);have c1:=hbx.cell (i:=1) (by simp);have c2:=hbx.cell (i:=2) (by simp);have f2:=hbx.free 2;have hTl:T<tl.length:=by rw [hinv.tlen];omega
      obtain ⟨zt,cT⟩:∃ z:Int,wr.cell? ⟨w1.heap.size+1,T,none⟩=some (.int .i64 z):=⟨tl[T],by have:=hinv.row.cell (i:=T) (by simpa using hTl);rw [List.getElem_map] at this;exact this⟩;have hY1:(T:Int)<(V:Int)+(k:Int):=by omega
      have hY2:(T:Int)<((V+k:Nat):Int):=by omega
      have hres:ai wr (w.heap.size+1) 41 [.int .i64 0,.slice none 0 0,.int .i64 0]:=by
       have:=(ai.made (w.alloc (.cells #[.int .i64 V,.slice a k c,.int .i64 T] 41)) #[.int .i64 0,.slice none 0 0,.int .i64 0] 41).kept hkW2;simpa using this
      have r0:=hres.cell (i:=0) (by simp);have r1:=hres.cell (i:=1) (by simp);have r2:=hres.cell (i:=2) (by simp);have s0:=hres.free 0;have s1:=hres.free 1;have s2:=hres.free 2;simp only [List.getElem_cons_succ,List.getElem_cons_zero] at r0 r1 r2;simp only [List.getElem_cons_succ,List.getElem_cons_zero] at c0 c1 c2;have HI:=ae hinv;have ne1:w1.heap.size≠w.heap.size+1:=by omega
      have ne2:w.heap.size+1≠w1.heap.size:=by omega
      clear hinv hbx hres;go_wp2;refine bodyPost_ret (v:=.tuple #[.agg #[.int .i64 V,.slice oa (bL V R f.nodes k).length oc,.int .i64 zt],.nilIface]) ?_ rfl ⟨_,_,rfl,?_,?_⟩
      ·simp [results,Tryz.results81,go_sem,r0,r1,r2]
      ·rw [<-HRe.out];have h3:w1.heap.size+1<w3.heap.size:=by omega
       exact ((((HI.out.own.below (a:=⟨w1.heap.size,2,none⟩) (by show w1.heap.size<_;omega) _).below (a:=⟨w.heap.size+1,0,none⟩) (by show w.heap.size+1<_;omega) _).below (a:=⟨w.heap.size+1,1,none⟩) (by show w.heap.size+1<_;omega) _).below (a:=⟨w.heap.size+1,2,none⟩) (by show w.heap.size+1<_;omega) _).at
      ·have hkA:af w wr:=(((af.refl w).alloc _).alloc _).trans hkW2;exact (((hkA.store (by omega) _ _).store (by omega) _ _).store (by omega) _ _).store (by omega) _ _
def mM (ks:List Int):Bool:=ks.all fun k=>!(k == 1||k == 5)
def cC (V T:Nat) (f:Fm):Bool:=mM (bL V (aQ V T f.nodes) f.nodes f.nodes.length)
theorem jw (v:Value) (f:Fm) (V T:Nat) (w:World) (hv:aG w v f.nodes) (hok:Ok f V T) (hck:di f=0) :
  Calls Tryz.prog 124 #[.agg #[.int .i64 V,v,.int .i64 T]] w fun e w'=>e=.returned (.tuple #[.bool (cC V T f),.nilIface])/\af w w':=by
 have H:=ae (fun W (hk:af w W)=>Cv v f V T W (hv.kept hk) hok hck);have hlen:=mK V (aQ V T f.nodes) f.nodes f.nodes.length;have h128:=hok.n128;unfold cC;obtain ⟨ks,hks⟩:∃ ks,ks=bL V (aQ V T f.nodes) f.nodes f.nodes.length:=⟨_,rfl⟩;rw [<-hks] at H hlen⊢;obtain ⟨r,hr⟩:∃ r,r=mM ks:=⟨_,rfl⟩;rw [<-hr];have HR:=ae hr;obtain ⟨n,hn⟩:∃ n,n=ks.length:=⟨_,rfl⟩;have hn9:n<=128:=by omega
 have HN:=ae hn;clear hv hok hck hks hr hlen h128 hn;go_enter Tryz.func124,Tryz.ntmps124;go_wp2_with (go_at_call 81;refine (H.out _ ((af.refl _).alloc _)).mono ?_;rintro e w1 ⟨tv,top,rfl,hkd,hk1⟩;obtain ⟨ta,tc,rfl,_,_,htc⟩:=hkd;rw [<-HN.out];have HTC:=ae htc;clear htc;have hs1:=hk1.size;simp only [World.size_alloc] at hs1);have hk2:af w (w1.alloc (.cells #[.int .i64 V,.slice ta n tc,.int .i64 top] 41)):=(((af.refl _).alloc _).trans hk1).alloc _;go_loopw [7,19] (fun _ i wr=>∃ k:Nat,k<=n/\i=.int .i64 k/\Hid (mM (ks.take k)=true)/\af w1 wr/\af w wr) (fun _ i _=>n - (intOf i).toNat)
 case atStart=>exact ⟨0,Nat.zero_le _,rfl,ae rfl,(af.refl _).alloc _,hk2⟩
 case round =>
  clear hk2;obtain ⟨k,hk,rfl,HM,hK,hKw⟩:=hrel;by_cases hlt:k<n
  ·have hkx:k<ks.length:=by have:=HN.out;omega
   obtain ⟨b,o,rfl,u1,sa,sn,sc,c0,c1,c2⟩:=HTC.out k hkx
   have hstep:mM (ks.take (k+1))=(mM (ks.take k)&&!(ks[k] == 1||ks[k] == 5)):=by
    unfold mM;rw [List.take_succ_eq_append_getElem hkx,List.all_append];simp
   have hbad:(ks[k] == 1||ks[k] == 5)=true->r=false:=by
    intro h;rw [HR.out,mM,List.all_eq_false];exact ⟨ks[k],List.getElem_mem _,by rw [h];simp⟩
   obtain ⟨kd,hkd⟩:∃ kd,kd=ks[k]:=⟨_,rfl⟩;rw [<-hkd] at c0 hstep hbad
   have hrange:wr.rangeAt b (o+k*3) [.int .i64 kd,.int .i64 u1,.slice sa sn sc]:=by
    intro j v hj
    match j,hj with
    | 0,hj=>simp at hj;subst hj;exact hK.cell c0
    | 1,hj=>simp at hj;subst hj;exact hK.cell c1
    | 2,hj=>simp at hj;subst hj;exact hK.cell c2
   have HRG:=ae hrange;have HS:=ae hstep;have HB:=ae hbad;clear c0 c1 c2 hrange hstep hbad hkd;by_cases h1:kd=1
   ·subst h1;go_wp2_with (with_reducible refine wpList_load_mid rfl 106 _ rfl b (o+k*3) rfl _ _ HRG.out Tryz.underlying106 rfl (by kernel_rfl) ?_);go_ret2;exact ⟨by rw [HB.out rfl];rfl,(hKw.alloc _)⟩
   ·by_cases h5:kd=5
    ·subst h5;go_wp2_with (with_reducible refine wpList_load_mid rfl 106 _ rfl b (o+k*3) rfl _ _ HRG.out Tryz.underlying106 rfl (by kernel_rfl) ?_);go_ret2;exact ⟨by rw [HB.out rfl];rfl,(hKw.alloc _)⟩
    ·have b1:(kd == 1)=false:=by simpa using h1
     have b5:(kd == 5)=false:=by simpa using h5
     go_wp2_with (with_reducible refine wpList_load_mid rfl 106 _ rfl b (o+k*3) rfl _ _ HRG.out Tryz.underlying106 rfl (by kernel_rfl) ?_);go_roundw
     case rel=>exact ⟨k+1,by omega,by go_num,ae (by rw [HS.out,HM.out,b1,b5];rfl),hK.alloc _,hKw.alloc _⟩
     case measure=>simp [intOf];omega
  ·have e:r=true:=by
    have:=HM.out;rw [List.take_of_length_le (by have:=HN.out;omega)] at this;rw [HR.out];exact this
   have HE:=ae e;clear e;go_wp2;go_ret2;exact ⟨by rw [HE.out];rfl,hKw⟩
def fk (w:World) (v:Value) (xss:List (List Nat)):Prop:=il bu w v xss
theorem fk.kept {w w':World} {v:Value} {xss:List (List Nat)} (h:fk w v xss) (hk:af w w'):fk w' v xss :=
 il.kept (fun _ _ _ _ h k=>h.kept k) h hk
def OwnFams (w:World) (B:Nat) (v:Value) (xss:List (List Nat)):Prop :=
 ∃ us:List Value,us.length=xss.length/\w.ownsRow B 22 1 v xss.length us/\xss.length<=140737488355328/\∀ i (h:i<us.length) (h':i<xss.length),aJ w 0 us[i] xss[i]
theorem OwnFams.at {w:World} {B:Nat} {v:Value} {xss:List (List Nat)} (h:OwnFams w B v xss):fk w v xss:=by
 obtain ⟨us,h1,⟨h2,h3⟩,h4,h5⟩:=h;rcases h3 with ⟨rfl,h6⟩ | ⟨g,cap,cur,rfl,h6,h7,h8,h9,h10,h11⟩
 ·have:xss=[]:=List.eq_nil_of_length_eq_zero h6
  subst this;exact ⟨none,0,rfl,⟨by simp,fun _=>rfl⟩,by simp,fun i h=>by simp at h⟩
 ·refine ⟨_,cap,rfl,⟨h8,fun h=>by cases h⟩,h4,fun i hi=>⟨g,0,us[i]'(by omega),rfl,?_,(h5 i (by omega) hi).sets⟩⟩;have e1:(cur.toList.take (xss.length*1))[i]?=us[i]?:=by rw [h11]
  rw [List.getElem?_take_of_lt (by omega)] at e1;simp only [World.cell?,h7,Nat.zero_add];simpa [h1,hi] using e1
theorem OwnFams.kept {w w':World} {B:Nat} {v:Value} {xss:List (List Nat)} (h:OwnFams w B v xss) (hk:af w w'):OwnFams w' B v xss:=by
 obtain ⟨us,h1,h2,h3,h4⟩:=h;exact ⟨us,h1,eF h2 hk,h3,fun i h h'=>(h4 i h h').kept hk⟩
theorem OwnFams.nil (w:World) (B:Nat):OwnFams w B (.slice none 0 0) []:=⟨[],rfl,World.ownsRow_nil _ _ _ _,by simp,fun i h=>by simp at h⟩
theorem xj {w w':World} {B:Nat} {e e':TypeId} {size size' n n' B':Nat} {v v':Value} {xs xs':List Value} (h:w.ownsRow B e size v n xs) (h':w.ownsRow B' e' size' v' n' xs') (hne:e≠e')
  (hg:∀ k,k<w.heap.size->some k≠v'.ownBlock->w'.heap[k]?=w.heap[k]?):w'.ownsRow B e size v n xs:=by
 obtain ⟨h1,h2⟩:=h;refine ⟨h1,h2.imp id ?_⟩;rintro ⟨g,cap,cur,rfl,h5,h6,h7⟩;refine ⟨g,cap,cur,rfl,h5,(hg g (gO h6) ?_).trans h6,h7⟩;intro e;obtain ⟨_,⟨rfl,_⟩ | ⟨g2,cap2,cur2,rfl,_,h8,_⟩⟩:=h'
 ·cases e
 ·cases e;rw [h8] at h6;cases h6;exact hne rfl
theorem aJ.tag {w w':World} {B:Nat} {e':TypeId} {size' n' B':Nat} {v v':Value} {ns:List Nat} {xs':List Value} (h:aJ w B v ns) (h':w.ownsRow B' e' size' v' n' xs') (hne:3≠e')
  (hg:∀ k,k<w.heap.size->some k≠v'.ownBlock->w'.heap[k]?=w.heap[k]?):aJ w' B v ns:=⟨⟨xj h.1.1 h' hne hg,h.1.2⟩,h.2⟩
theorem qT {ops:Array Oper} {rest:List Oper} {o:Oper} {a:Act} {Q:Exit->Act->World->Prop} {w:World} (hgd:o.guard=none) (s x:Operand)
  (ho:o.op=.call { callee:=.builtin .append,args:=#[s,x],argTypes:=#[104,104] }) (B:Nat) (v:Value) (xss:List (List Nat)) (hs:a.eval s=v) (hown:OwnFams w B v xss)
  (ad:Addr) (u:Value) (ys:List Nat) (hx:a.eval x=.slice (some ad) 1 1) (hc:w.cell? ad=some u) (hu:aJ w 0 u ys) (hl:xss.length<1000000) (hB:B<=w.heap.size)
  (h:∀ v' w',OwnFams w' B v' (xss++[ys])->w.grownBy w' v.ownBlock->Below B w w'->wpList Tryz.prog ops Q rest (a.put o.dst v') w'):wpList Tryz.prog ops Q (o :: rest) a w:=by
 obtain ⟨us,h1,h2,h3,h4⟩:=hown;obtain ⟨ua,un,uc,rfl⟩:=hu.1.ints.shape;refine nt 104 22 _ 24 l_ Tryz.underlying104 rfl hgd s x ho B v us hs (by rw [h1];exact h2) ad _ hx hc rfl (by omega) (by simp [maxLen];omega) hB ?_;intro v' w' h5 h6 h7;refine h v' w' ⟨us++[.slice ua un uc],by simp [h1],by simpa [h1] using h5,by simp;omega,?_⟩ h6 h7;intro i hi hi';by_cases hik:i<us.length
 ·rw [List.getElem_append_left hik,List.getElem_append_left (by omega)];exact (h4 i hik (by omega)).tag h2 (by decide) (fun k hk hne=>h6.block k hk hne)
 ·have e:i=us.length:=by simp at hi;omega
  subst e;rw [List.getElem_append_right (Nat.le_refl _),List.getElem_append_right (by omega)];simp only [Nat.sub_self,h1,List.getElem_cons_zero];exact hu.tag h2 (by decide) (fun k hk hne=>h6.block k hk hne)
def bS (op:List Nat->List Nat->Option (List Nat)) (first:List Nat) (args:List (List Nat)):Option (List Nat):=args.foldlM op first
theorem og (op:List Nat->List Nat->Option (List Nat)) (first:List Nat) (args:List (List Nat)) (k:Nat) (h:k<args.length):bS op first (args.take (k+1))=(bS op first (args.take k)).bind fun l=>op l args[k]:=by
 unfold bS;rw [List.take_succ_eq_append_getElem h,List.foldlM_append];simp [Option.bind_eq_bind]
theorem oe (op:List Nat->List Nat->Option (List Nat)) (first:List Nat) (args:List (List Nat)) (k:Nat) (h:bS op first (args.take k)=none):bS op first args=none:=by
 unfold bS at *;rw [<-List.take_append_drop k args,List.foldlM_append,h];rfl
def Joins (g:Nat) (op:List Nat->List Nat->Option (List Nat)):Prop :=
 ∀ (a b:List Nat) (va vb:Value) (w:World),bu w va a->bu w vb b->Calls Tryz.prog g #[va,vb] w fun e w'=>dy w' w.heap.size e (op a b)/\af w w'
theorem aJ.one (w:World) (B:Nat) (s:Nat) (hs:Mk s) (hB:B<=w.heap.size):aJ (w.alloc (.cells #[.int .i64 s] 3)) B (.slice (some ⟨w.heap.size,0,none⟩) 1 1) [s] :=
 ⟨⟨⟨by simp,.inr ⟨w.heap.size,1,#[.int .i64 s],rfl,hB,heap_alloc_new w _,Nat.le_refl _,by unfold maxLen;omega,by simp,by simp⟩⟩,by simp⟩,by simpa using hs⟩
theorem aJ.nils (w:World) (B:Nat):aJ w B (.slice none 0 0) []:=⟨OwnInts.nil _ _,by simp⟩
theorem OwnFams.store {w:World} {B g n cap:Nat} {xss:List (List Nat)} (h:OwnFams w B (.slice (some ⟨g,0,none⟩) n cap) xss) (hn:n=xss.length) (i:Nat) {u:Value} {ys:List Nat} (hu:aJ w 0 u ys) :
  OwnFams (w.setCell ⟨g,i,none⟩ u) B (.slice (some ⟨g,0,none⟩) n cap) (xss.set i ys):=by
 obtain ⟨us,h1,h2,h3,h4⟩:=h;subst hn;have h5:=h2.stored i u;refine ⟨us.set i u,by simp [h1],by simpa using h5.1,by simpa using h3,fun j hj hj'=>?_⟩;have hg:∀ k,k<w.heap.size->some k≠(Value.slice (some ⟨g,0,none⟩) xss.length cap).ownBlock->(w.setCell ⟨g,i,none⟩ u).heap[k]?=w.heap[k]?:=fun k hk hne=>h5.2.block k hk hne
 by_cases e:i=j
 ·subst e;rw [List.getElem_set_self,List.getElem_set_self];exact hu.tag h2 (by decide) hg
 ·rw [List.getElem_set_ne e,List.getElem_set_ne e];exact (h4 j (by simpa using hj) (by simpa using hj')).tag h2 (by decide) hg
theorem A_ {ops:Array Oper} {rest:List Oper} {o:Oper} {a:Act} {Q:Exit->Act->World->Prop} {w:World} (hg:o.guard=none) (l c:Operand)
  (hop:o.op=Op.makeSlice 104 l c) (n:Nat) (hl:a.eval l=.int .i64 n) (hc:a.eval c=.int .i64 n) (hb:n<=1000000)
  (hK:∀ w',OwnFams w' w.heap.size (.slice (some ⟨w.heap.size,0,none⟩) n n) (List.replicate n [])->af w w'->w.heap.size<w'.heap.size->wpList Tryz.prog ops Q rest (a.put o.dst (.slice (some ⟨w.heap.size,0,none⟩) n n)) w'):wpList Tryz.prog ops Q (o :: rest) a w:=by
 obtain ⟨i0,hi0,hz0,hz1,hz2⟩:=info_parts l_;refine wpList_make_full w hg l c 104 hop w.heap.size 22 i0 _ 1 Tryz.underlying104 hi0 hz0 hz1 .i64 .i64 _ _ n hl hc rfl rfl (by rw [hz2];omega) (by unfold maxLen;omega) (Nat.le_refl _) ?_;intro w' h1 h2;rw [ou _ rfl n] at h1;refine hK w' ⟨List.replicate n (.slice none 0 0),by simp,by simpa using h1,by simp;omega,fun i h h'=>by simp [aJ.nils]⟩ ⟨h2.os,h2.tape,h2.output,h2.size,fun k hk=>h2.block k hk (by simp)⟩ ?_;exact (h1.lt _ rfl).2
theorem OwnFams.cell {w:World} {B g n cap:Nat} {xss:List (List Nat)} (h:OwnFams w B (.slice (some ⟨g,0,none⟩) n cap) xss) (i:Nat) (hi:i<xss.length):∃ u,w.cell? ⟨g,i,none⟩=some u/\aJ w 0 u xss[i]:=by
 obtain ⟨us,h1,h2,h3,h4⟩:=h;refine ⟨us[i]'(by omega),?_,h4 i (by omega) hi⟩;obtain ⟨h5,h6⟩:=h2;rcases h6 with ⟨h6,_⟩ | ⟨g',cap',cur,h6,_,h7,h8,h9,h10,h11⟩
 ·cases h6
 ·cases h6;have e1:(cur.toList.take (xss.length*1))[i]?=us[i]?:=by rw [h11]
  rw [List.getElem?_take_of_lt (by omega)] at e1;simp only [World.cell?,h7];simpa [h1,hi] using e1
theorem OwnFams.free {w:World} {B g n cap:Nat} {xss:List (List Nat)} (h:OwnFams w B (.slice (some ⟨g,0,none⟩) n cap) xss) (i:Nat):w.frozen? ⟨g,i,none⟩=false:=by
 obtain ⟨us,h1,⟨h2,h3⟩,_⟩:=h;rcases h3 with ⟨h3,_⟩ | ⟨g',cap',cur,h3,_,h4,_⟩
 ·cases h3
 ·cases h3;simp [World.frozen?,h4]
theorem OwnFams.shape {w:World} {B:Nat} {v:Value} {xss:List (List Nat)} (h:OwnFams w B v xss) (h0:xss≠[]):∃ g cap,v=.slice (some ⟨g,0,none⟩) xss.length cap/\B<=g/\g<w.heap.size/\xss.length<=cap:=by
 obtain ⟨us,h1,⟨h2,h3⟩,_⟩:=h;rcases h3 with ⟨_,h3⟩ | ⟨g,cap,cur,rfl,h4,h5,h6,_⟩
 ·exact absurd (List.eq_nil_of_length_eq_zero h3) h0
 ·exact ⟨g,cap,rfl,h4,gO h5,h6⟩
def EF (arg:List Nat) (t:List (List Nat)) (m:Nat):Option (List Nat):=(aN arg (t.getD m [])).bind fun x=>bN x (t.getD (m+1) [])
def CF (arg:List Nat) (t:List (List Nat)):Nat->Option (List (List Nat))
 | 0=>some [[0]]
 | m+1=>(CF arg t m).bind fun acc=>(EF arg t m).map fun x=>acc++[x]
def ug (k:Nat) (args:List (List Nat)):Nat->List (List Nat)->Option (List (List Nat))
 | 0,t=>some t
 | q+1,t=>(CF (args.getD q []) t k).bind (ug k args q)
def FH (args:List (List Nat)) (k:Nat):Option (List Nat):=(ug k args args.length ([0] :: List.replicate k [])).map fun t=>t.getD k []
def Fx (kind:Int) (k:Int) (fams:List (List Nat)):Option (List Nat) :=
 if kind=0 then (if k=1 then some [0] else some []) else if kind=3 then bS bN [] fams else if kind=2 then bS aN [0] fams else FH fams k.toNat
def ft (V:Nat) (out:List (List Nat)) (a:Int):List Nat:=if a<V then [2^a.toNat] else out.getD (a - V).toNat []
def Dd (V:Nat) (mark:List Bool) (nodes:List Nd) (out:List (List Nat)) (i:Nat):Option (List (List Nat)) :=
 if mark.getD (V+i) false then (Fx (nodes.getD i bB).kind (nodes.getD i bB).k ((nodes.getD i bB).args.map (ft V out))).map fun l=>out.set i l else some out
def Ax (V:Nat) (mark:List Bool) (nodes:List Nd):Nat->Option (List (List Nat))
 | 0=>some (List.replicate nodes.length [])
 | k+1=>(Ax V mark nodes k).bind fun out=>Dd V mark nodes out k
def Ft (V T:Nat) (nodes:List Nd):Option (List (List Nat)):=Ax V (aQ V T nodes) nodes nodes.length
theorem sT (V:Nat) (mark:List Bool) (nodes:List Nd) (i:Nat) (h:mark.getD (V+i) false=true):∀ k,i<k->(nodes.getD i bB).kind∈bL V mark nodes k:=by
 intro k hk;induction k with
 | zero=>omega
 | succ k ih =>
  unfold bL;by_cases e:i=k
  ·subst e;rw [h];simp
  ·split
   ·exact List.mem_append.2 (.inl (ih (by omega)))
   ·exact ih (by omega)
theorem jp {V T:Nat} {f:Fm} (hok:Ok f V T) (hs:cC V T f=true) (i:Nat) (hi:i<f.nodes.length) (h:(aQ V T f.nodes).getD (V+i) false=true) :
  f.nodes[i].kind=0\/f.nodes[i].kind=2\/f.nodes[i].kind=3\/f.nodes[i].kind=4:=by
 have h1:=sT V _ f.nodes i h f.nodes.length hi;unfold cC mM at hs;have h2:=List.all_eq_true.1 hs _ h1;rw [show f.nodes.getD i bB=f.nodes[i] by simp [List.getD_eq_getElem?_getD,hi]] at h2;have h3:=hok.kind i hi;simp at h2;omega
def Gm (w':World) (B:Nat) (e:Ending) (r:Option (List (List Nat))):Prop :=
 match r with
 | some l=>∃ v,e=.returned (.tuple #[v,.nilIface])/\OwnFams w' B v l
 | none=>e=.returned (.tuple #[.slice none 0 0,aV 4])
theorem Cg (Y:Nat) (h:Y<24):wrap64 ((2:Int)^Y)=((2^Y:Nat):Int)/\Mk (2^Y):=by
 have h1:(2:Nat)^Y<2^24:=Nat.pow_lt_pow_right (by omega) h;refine ⟨?_,h1⟩;rw [show (2:Int)^Y=((2^Y:Nat):Int) by simp];generalize (2:Nat)^Y=z at h1⊢;unfold wrap64;omega
theorem aJ.shl (w:World) (Y:Nat) (h:Y<24):aJ (w.alloc (.cells #[.int .i64 (wrap64 ((2:Int)^Y))] 3)) 0 (.slice (some ⟨w.heap.size,0,none⟩) 1 1) [2^Y]:=by
 rw [(Cg Y h).1];exact aJ.one w 0 (2^Y) (Cg Y h).2 (Nat.zero_le _)
theorem aw {a b:Nat}:subN a b=true ↔ ∀ i,a.testBit i=true->b.testBit i=true:=by
 unfold subN aM;rw [beq_iff_eq];constructor
 ·intro h i hi;have h1:(a ^^^ (a &&& b)).testBit i=false:=by rw [h];simp
  simp [hi] at h1;exact h1
 ·intro h;apply Nat.eq_of_testBit_eq;intro i;simp only [Nat.testBit_xor,Nat.testBit_and,Nat.zero_testBit];cases ha:a.testBit i with
  | false=>simp
  | true=>simp [h i ha]
theorem dr (a:Nat):subN a a=true:=aw.2 fun _ h=>h
theorem e_ {a b c:Nat} (h1:subN a b=true) (h2:subN b c=true):subN a c=true:=aw.2 fun i h=>aw.1 h2 i (aw.1 h1 i h)
theorem zl {a b:Nat} (h:subN a b=true):a % 2<=b % 2/\subN (a / 2) (b / 2)=true:=by
 have h':=aw.1 h;refine ⟨?_,aw.2 fun i hi=>?_⟩
 ·have h0:=h' 0;simp only [Nat.testBit_zero,decide_eq_true_eq] at h0;omega
 ·have h0:=h' (i+1);simp only [Nat.testBit_succ] at h0;exact h0 hi
theorem EP (n:Nat):∀ a b,b<=n->subN a b=true->pc a<=pc b/\(pc a=pc b->a=b):=by
 induction n using Nat.strongRecOn with
 | ind n ih =>
  intro a b hb h;by_cases h0:b=0
  ·subst h0
   have:a=0:=by
    apply Nat.eq_of_testBit_eq;intro i;cases ha:a.testBit i with
    | false=>simp
    | true=>have:=aw.1 h i ha;simp at this
   subst this;exact ⟨Nat.le_refl _,fun _=>rfl⟩
  ·obtain ⟨h1,h2⟩:=zl h;have:=ih (b / 2) (by omega) (a / 2) (b / 2) (Nat.le_refl _) h2;rw [dB a,dB b];refine ⟨by omega,fun he=>?_⟩;have e2:pc (a / 2)=pc (b / 2):=by omega
   have:=this.2 e2;omega
theorem fZ {a b:Nat} (h:subN a b=true):pc a<=pc b/\(pc a=pc b->a=b):=EP b a b (Nat.le_refl _) h
theorem gH {a b:Nat} (h1:subN a b=true) (h2:subN b a=true):a=b:=by
 have:=fZ h1;have:=fZ h2;exact (fZ h1).2 (by omega)
theorem vw {a b:Nat} (h:subN a b=true) (h2:eU b a):False:=by
 have h1:=fZ h;unfold eU at h2;rcases h2 with h2 | h2
 ·omega
 ·have:=h1.2 (by omega);omega
theorem yw (l:List Nat):∀ out x,(out++l).Pairwise eU->(x∈l.foldl aS out ↔ x∈out\/x∈l/\∀ y,y∈out\/y∈l->subN y x=true->y=x):=by
 induction l with
 | nil=>intro out x _;simp
 | cons s l ih =>
  intro out x hp;have hp':=List.pairwise_append.1 hp;have hs:=List.pairwise_cons.1 hp'.2.1;show x∈l.foldl aS (aS out s) ↔ _;by_cases hk:out.any (fun t=>subN t s)=true
  ·rw [show aS out s=out from if_pos hk];obtain ⟨t,ht,hts⟩:=List.any_eq_true.1 hk;rw [ih out x (List.pairwise_append.2 ⟨hp'.1,hs.2,fun a ha b hb=>hp'.2.2 a ha b (List.mem_cons_of_mem _ hb)⟩)];constructor
   ·rintro (h | ⟨h1,h2⟩)
    ·exact .inl h
    ·refine .inr ⟨List.mem_cons_of_mem _ h1,?_⟩;rintro y (hy | hy) hyx
     ·exact h2 y (.inl hy) hyx
     ·rcases List.mem_cons.1 hy with e | e
      ·subst e;have:=h2 t (.inl ht) (e_ hts hyx);subst this;exact absurd (hp'.2.2 t ht t (List.mem_cons_of_mem _ h1)) (eB t)
      ·exact h2 y (.inr e) hyx
   ·rintro (h | ⟨h1,h2⟩)
    ·exact .inl h
    ·rcases List.mem_cons.1 h1 with e | e
     ·subst e;have:=h2 t (.inl ht) hts;subst this;exact absurd (hp'.2.2 t ht t (List.mem_cons_self ..)) (eB t)
     ·exact .inr ⟨e,fun y hy=>h2 y (hy.imp id (List.mem_cons_of_mem _))⟩
  ·rw [show aS out s=out++[s] from if_neg hk];rw [ih (out++[s]) x (by simpa using hp)];have hk':∀ t∈out,¬ subN t s=true:=fun t ht h=>hk (List.any_eq_true.2 ⟨t,ht,h⟩)
   have ms:∀ z,z∈out++[s] ↔ z∈out\/z=s:=fun z=>by simp
   simp only [ms,List.mem_cons];constructor
   ·rintro ((h | h) | ⟨h1,h2⟩)
    ·exact .inl h
    ·subst h;refine .inr ⟨.inl rfl,?_⟩;rintro y (hy | hy | hy) hyx
     ·exact absurd hyx (hk' y hy)
     ·exact hy
     ·exact (vw hyx (hs.1 y hy)).elim
    ·refine .inr ⟨.inr h1,?_⟩;rintro y (hy | hy | hy) hyx
     ·exact h2 y (.inl (.inl hy)) hyx
     ·exact h2 y (.inl (.inr hy)) hyx
     ·exact h2 y (.inr hy) hyx
   ·rintro (h | ⟨h1 | h1,h2⟩)
    ·exact .inl (.inl h)
    ·exact .inl (.inr h1)
    ·refine .inr ⟨h1,?_⟩;rintro y ((hy | hy) | hy) hyx
     ·exact h2 y (.inl hy) hyx
     ·exact h2 y (.inr (.inl hy)) hyx
     ·exact h2 y (.inr (.inr hy)) hyx
theorem vB (l:List Nat):∀ out,(out++l).Pairwise eU->(l.foldl aS out).Pairwise eU:=by
 induction l with
 | nil=>intro out h;simpa using h
 | cons s l ih =>
  intro out h;show (l.foldl aS (aS out s)).Pairwise eU;by_cases hk:out.any (fun t=>subN t s)=true
  ·rw [show aS out s=out from if_pos hk];refine ih out (List.Pairwise.sublist ?_ h);exact List.Sublist.append_left (List.sublist_cons_self s l) out
  ·rw [show aS out s=out++[s] from if_neg hk];exact ih _ (by simpa using h)
theorem bX (l:List Nat) (x:Nat):x∈aT l ↔ x∈l/\∀ y∈l,subN y x=true->y=x:=by
 unfold aT gV;rw [yw (bl l) [] x (by simpa using fC l)];simp [ff]
theorem fh (l:List Nat):(aT l).Pairwise eU:=vB _ [] (by simpa using fC l)
def up (l:List Nat) (s:Nat):Prop:=∃ t∈l,subN t s=true
theorem nY (l:List Nat):∀ (n:Nat) (t:Nat),pc t<=n->t∈l->∃ y∈aT l,subN y t=true:=by
 intro n;induction n with
 | zero =>
  intro t hn ht;refine ⟨t,(bX l t).2 ⟨ht,fun y hy h=>?_⟩,dr t⟩;have:=fZ h;exact this.2 (by omega)
 | succ n ih =>
  intro t hn ht;by_cases h:∃ y∈l,subN y t=true/\y≠t
  ·obtain ⟨y,hy,h1,h2⟩:=h;have:=fZ h1
   have h3:pc y<=n:=by
    by_cases e:pc y=pc t
    ·exact absurd (this.2 e) h2
    ·omega
   obtain ⟨z,hz,h4⟩:=ih y h3 hy;exact ⟨z,hz,e_ h4 h1⟩
  ·exact ⟨t,(bX l t).2 ⟨ht,fun y hy h1=>Classical.byContradiction fun h2=>h ⟨y,hy,h1,h2⟩⟩,dr t⟩
theorem lA (l:List Nat) (s:Nat):up (aT l) s ↔ up l s:=by
 constructor
 ·rintro ⟨t,ht,h⟩;exact ⟨t,gx ht,h⟩
 ·rintro ⟨t,ht,h⟩;obtain ⟨y,hy,h2⟩:=nY l _ t (Nat.le_refl _) ht;exact ⟨y,hy,e_ h2 h⟩
theorem iU {l r:List Nat} (h:∀ s,up l s ↔ up r s) {x:Nat} (hx:x∈aT l):x∈aT r:=by
 obtain ⟨h1,h2⟩:=(bX l x).1 hx;obtain ⟨y,hy,hyx⟩:=(h x).1 ⟨x,h1,dr x⟩;obtain ⟨z,hz,hzy⟩:=(h y).2 ⟨y,hy,dr y⟩;have e1:=h2 z hz (e_ hzy hyx);subst e1;have e2:y=z:=gH hyx hzy;subst e2;refine (bX r y).2 ⟨hy,fun w hw hwy=>?_⟩;obtain ⟨v,hv,hvw⟩:=(h w).2 ⟨w,hw,dr w⟩;have e3:=h2 v hv (e_ hvw hwy);subst e3;exact gH hwy hvw
theorem vm {l r:List Nat} (h:∀ s,up l s ↔ up r s):aT l=aT r :=
 eG eU eB iS _ _ (fh l) (fh r) fun _=>⟨fun hx=>iU h hx,fun hx=>iU (fun s=>(h s).symm) hx⟩
def CJ (l:List Nat):Prop:=aT l=l
theorem nS (l:List Nat):CJ (aT l):=vm fun s=>lA l s
theorem ww (s:Nat):¬ up [] s:=by rintro ⟨t,h,_⟩;cases h
theorem CI (s:Nat):subN 0 s=true:=aw.2 fun i h=>by simp at h
theorem rO (s:Nat):up [0] s:=⟨0,by simp,CI s⟩
theorem CT:CJ []:=rfl
theorem CU (x:Nat):CJ [x]:=by
 have h1:∀ y,y∈aT [x] ↔ y∈[x]:=fun y=>by rw [bX];simp;intro h _;exact h.symm
 exact eG eU eB iS _ _ (fh [x]) (by simp) h1
theorem zy (a b:List Nat) (s:Nat):up (a++b) s ↔ up a s\/up b s:=by
 unfold up;constructor
 ·rintro ⟨t,h,h2⟩;rcases List.mem_append.1 h with h | h
  ·exact .inl ⟨t,h,h2⟩
  ·exact .inr ⟨t,h,h2⟩
 ·rintro (⟨t,h,h2⟩ | ⟨t,h,h2⟩)
  ·exact ⟨t,List.mem_append.2 (.inl h),h2⟩
  ·exact ⟨t,List.mem_append.2 (.inr h),h2⟩
theorem Bq (x y s:Nat):subN (x ||| y) s=true ↔ subN x s=true/\subN y s=true:=by
 rw [aw,aw,aw];constructor
 ·intro h;exact ⟨fun i hi=>h i (by simp [hi]),fun i hi=>h i (by simp [hi])⟩
 ·rintro ⟨h1,h2⟩ i hi;simp at hi;rcases hi with hi | hi
  ·exact h1 i hi
  ·exact h2 i hi
theorem DM (a b:List Nat) (s:Nat):up (jS a b) s ↔ up a s/\up b s:=by
 unfold up;constructor
 ·rintro ⟨t,h,h2⟩;obtain ⟨x,hx,y,hy,rfl⟩:=(ow a b t).1 h;have:=(Bq x y s).1 h2;exact ⟨⟨x,hx,this.1⟩,⟨y,hy,this.2⟩⟩
 ·rintro ⟨⟨x,hx,h1⟩,⟨y,hy,h2⟩⟩;exact ⟨x ||| y,(ow a b _).2 ⟨x,hx,y,hy,rfl⟩,(Bq x y s).2 ⟨h1,h2⟩⟩
theorem kl {a b l:List Nat} (h:bN a b=some l):l=aT (a++b)/\l.length<=1024:=by
 unfold bN at h;split at h
 ·split at h
  ·cases h;exact ⟨rfl,by assumption⟩
  ·cases h
 ·cases h
theorem gd {a b l:List Nat} (h:aN a b=some l):l=aT (jS (aT a) (aT b))/\l.length<=1024:=by
 unfold aN at h;split at h
 ·split at h
  ·cases h;exact ⟨rfl,by assumption⟩
  ·cases h
 ·cases h
theorem ue {a b l:List Nat} (h:bN a b=some l) (s:Nat):up l s ↔ up a s\/up b s:=by
 rw [(kl h).1,lA,zy]
theorem mZ {a b l:List Nat} (h:aN a b=some l) (s:Nat):up l s ↔ up a s/\up b s:=by
 rw [(gd h).1,lA,DM,lA,lA]
theorem xJ {a b l:List Nat} (h:bN a b=some l):CJ l:=by rw [(kl h).1];exact nS _
theorem qX {a b l:List Nat} (h:aN a b=some l):CJ l:=by rw [(gd h).1];exact nS _
theorem kf (op:List Nat->List Nat->Option (List Nat)) (f a:List Nat) (l:List (List Nat)):bS op f (a :: l)=(op f a).bind fun g=>bS op g l:=rfl
theorem zz (args:List (List Nat)) (s:Nat):∀ f l,bS bN f args=some l->(up l s ↔ up f s\/∃ a∈args,up a s):=by
 induction args with
 | nil=>intro f l h;cases h;simp
 | cons a args ih =>
  intro f l h;rw [kf] at h;cases h1:bN f a with
  | none=>rw [h1] at h;cases h
  | some g =>
   rw [h1] at h;rw [ih g l h,ue h1];simp [or_assoc]
theorem wv (args:List (List Nat)) (s:Nat):∀ f l,bS aN f args=some l->(up l s ↔ up f s/\∀ a∈args,up a s):=by
 induction args with
 | nil=>intro f l h;cases h;simp
 | cons a args ih =>
  intro f l h;rw [kf] at h;cases h1:aN f a with
  | none=>rw [h1] at h;cases h
  | some g =>
   rw [h1] at h;rw [ih g l h,mZ h1];simp [and_assoc]
def Good (l:List Nat):Prop:=CJ l/\l.length<=1024
theorem iL:Good []:=⟨CT,by simp⟩
theorem iM (x:Nat):Good [x]:=⟨CU x,by simp⟩
theorem oi {a b l:List Nat} (h:bN a b=some l):Good l:=⟨xJ h,(kl h).2⟩
theorem pD {a b l:List Nat} (h:aN a b=some l):Good l:=⟨qX h,(gd h).2⟩
theorem p_ (op:List Nat->List Nat->Option (List Nat)) (hop:∀ a b l,op a b=some l->Good l) (args:List (List Nat)):∀ f l,Good f->bS op f args=some l->Good l:=by
 induction args with
 | nil=>intro f l hf h;cases h;exact hf
 | cons a args ih =>
  intro f l hf h;rw [kf] at h;cases h1:op f a with
  | none=>rw [h1] at h;cases h
  | some g=>rw [h1] at h;exact ih g l (hop _ _ _ h1) h
def cS (vals:List Bool):List Int->Nat
 | []=>0
 | a :: l=>(if vals.getD a.toNat false then 1 else 0)+cS vals l
def mN (kind k:Int) (t m:Nat):Bool :=
 if kind=0 then k == 1 else if kind=1 then t == 0 else if kind=2 then t == m else if kind=3 then decide (0<t) else if kind=4 then decide (k<=(t:Int)) else t % 2 == 1
def bw (V s:Nat) (nodes:List Nd):Nat->List Bool
 | 0=>(List.range V).map fun i=>s.testBit i
 | k+1=>bw V s nodes k++[mN (nodes.getD k bB).kind (nodes.getD k bB).k (cS (bw V s nodes k) (nodes.getD k bB).args) (nodes.getD k bB).args.length]
def eQ (V s:Nat) (nodes:List Nd):List Bool:=bw V s nodes nodes.length
theorem gS (V s:Nat) (nodes:List Nd) (k:Nat):(bw V s nodes k).length=V+k:=by
 induction k with
 | zero=>simp [bw]
 | succ k ih=>unfold bw;simp [ih];omega
theorem ic (V s:Nat) (nodes:List Nd) (j:Nat):∀ k i,i<V+j->j<=k->(bw V s nodes k).getD i false=(bw V s nodes j).getD i false:=by
 intro k;induction k with
 | zero =>
      intro i hi hj;have:j=0:=by omega
      subst this;rfl
 | succ k ih =>
  intro i hi hj;by_cases e:j=k+1
  ·subst e;rfl
  ·rw [<-ih i hi (by omega)];show (bw V s nodes k++_).getD i false=_;rw [List.getD_eq_getElem?_getD,List.getElem?_append_left (by rw [gS];omega),<-List.getD_eq_getElem?_getD]
theorem ib (V s:Nat) (nodes:List Nd) (k i:Nat) (hi:i<V):(bw V s nodes k).getD i false=s.testBit i:=by
 rw [ic V s nodes 0 k i (by omega) (by omega)];simp [bw,List.getD_eq_getElem?_getD,hi]
theorem Cw (vals:List Bool) (a:List Int):cS vals a<=a.length:=by
 induction a with
 | nil=>simp [cS]
 | cons x a ih=>simp only [cS,List.length_cons];split <;> omega
theorem ud (v1 v2:List Bool) (a:List Int) (h:∀ x∈a,v1.getD x.toNat false=v2.getD x.toNat false):cS v1 a=cS v2 a:=by
 induction a with
 | nil=>rfl
 | cons x a ih=>simp only [cS];rw [h x (List.mem_cons_self ..),ih fun y hy=>h y (List.mem_cons_of_mem _ hy)]
noncomputable def pu (s:Nat):List (List Nat)->Nat
 | []=>0
 | f :: l=>(open Classical in if up f s then 1 else 0)+pu s l
theorem Cx (s:Nat) (a:List (List Nat)):pu s a<=a.length:=by
 induction a with
 | nil=>simp [pu]
 | cons x a ih=>simp only [pu,List.length_cons];split <;> omega
theorem DL (s:Nat) (a:List (List Nat)):0<pu s a ↔ ∃ f∈a,up f s:=by
 induction a with
 | nil=>simp [pu]
 | cons x a ih =>
  simp only [pu,List.mem_cons];by_cases h:up x s
  ·rw [if_pos h];exact ⟨fun _=>⟨x,.inl rfl,h⟩,fun _=>by omega⟩
  ·rw [if_neg h,Nat.zero_add,ih];exact ⟨fun ⟨f,hf,h1⟩=>⟨f,.inr hf,h1⟩,fun ⟨f,hf,h1⟩=>hf.elim (fun e=>absurd (e ▸ h1) h) fun hf=>⟨f,hf,h1⟩⟩
theorem DK (s:Nat) (a:List (List Nat)):pu s a=a.length ↔ ∀ f∈a,up f s:=by
 induction a with
 | nil=>simp [pu]
 | cons x a ih =>
  simp only [pu,List.length_cons,List.mem_cons];have:=Cx s a;by_cases h:up x s
  ·rw [if_pos h];constructor
   ·intro e f hf;rcases hf with rfl | hf
    ·exact h
    ·exact ih.1 (by omega) f hf
   ·intro e;have:=ih.2 fun f hf=>e f (.inr hf)
    omega
  ·rw [if_neg h];constructor
   ·intro e;omega
   ·intro e;exact absurd (e x (.inl rfl)) h
theorem xp (Y s:Nat):subN (2^Y) s=s.testBit Y:=by
 rw [Bool.eq_iff_iff,aw];constructor
 ·intro h;exact h Y (by simp)
 ·intro h i hi;simp [Nat.testBit_two_pow] at hi;subst hi;exact h
theorem kY (args:List Int):∀ (m:List Bool) (i:Nat),m.getD i false=true->(bW m args).getD i false=true:=by
 induction args with
 | nil=>intro m i h;exact h
 | cons a l ih =>
  intro m i h;refine ih (m.set a.toNat true) i ?_;rw [List.getD_eq_getElem?_getD] at h⊢;by_cases e:a.toNat=i
  ·subst e;by_cases hl:a.toNat<m.length
   ·rw [List.getElem?_set_self hl];rfl
   ·rw [List.getElem?_eq_none (by omega)] at h;cases h
  ·rw [List.getElem?_set_ne e];exact h
theorem sP (args:List Int):∀ (m:List Bool) (a:Int),a∈args->a.toNat<m.length->(bW m args).getD a.toNat false=true:=by
 induction args with
 | nil=>intro m a h;cases h
 | cons x l ih =>
  intro m a ha hl;rcases List.mem_cons.1 ha with e | e
  ·subst e;refine kY l (m.set a.toNat true) a.toNat ?_;rw [List.getD_eq_getElem?_getD,List.getElem?_set_self hl];rfl
  ·exact ih (m.set x.toNat true) a e (by simpa using hl)
theorem pF (args:List Int):∀ (m:List Bool) (i:Nat),(∀ a∈args,a.toNat≠i)->(bW m args).getD i false=m.getD i false:=by
 induction args with
 | nil=>intro m i _;rfl
 | cons a l ih =>
  intro m i h;rw [show bW m (a :: l)=bW (m.set a.toNat true) l from rfl,ih (m.set a.toNat true) i fun x hx=>h x (List.mem_cons_of_mem _ hx)];rw [List.getD_eq_getElem?_getD,List.getElem?_set_ne (h a (List.mem_cons_self ..)),<-List.getD_eq_getElem?_getD]
theorem eR (V:Nat) (nodes:List Nd):∀ k m i,m.getD i false=true->(cF V nodes k m).getD i false=true:=by
 intro k;induction k with
 | zero=>intro m i h;exact h
 | succ k ih =>
  intro m i h;unfold cF;refine ih _ i ?_;split
  ·exact kY _ _ _ h
  ·exact h
theorem qV (V:Nat) (nodes:List Nd) (hargs:∀ i (h:i<nodes.length),∀ a∈nodes[i].args,0<=a/\a<(V:Int)+i):∀ k m i,k<=nodes.length->k<=i->(cF V nodes k m).getD (V+i) false=m.getD (V+i) false:=by
 intro k;induction k with
 | zero=>intro m i _ _;rfl
 | succ k ih =>
  intro m i hk hi;unfold cF;rw [ih _ i (by omega) (by omega)];split
  ·refine pF _ _ _ fun a ha e=>?_
   rw [show nodes.getD k bB=nodes[k] by simp [List.getD_eq_getElem?_getD,show k<nodes.length by omega]] at ha;have:=hargs k (by omega) a ha;omega
  ·rfl
theorem nO (V:Nat) (nodes:List Nd) (hargs:∀ i (h:i<nodes.length),∀ a∈nodes[i].args,0<=a/\a<(V:Int)+i):∀ k m,k<=nodes.length->m.length=V+nodes.length ->
  ∀ i (_:i<k) (h:i<nodes.length),(cF V nodes k m).getD (V+i) false=true->∀ a∈nodes[i].args,(cF V nodes k m).getD a.toNat false=true:=by
 intro k;induction k with
 | zero=>intro m _ _ i hi;omega
 | succ k ih =>
  intro m hk hm i hi h hmark a ha;have hnd:nodes.getD k bB=nodes[k]:=by simp [List.getD_eq_getElem?_getD,show k<nodes.length by omega]
  unfold cF at hmark⊢;by_cases e:i=k
  ·subst e;have h2:=qV V nodes hargs i (if m.getD (V+i) false then bW m (nodes.getD i bB).args else m) i (by omega) (Nat.le_refl _);rw [h2] at hmark
   have hmi:m.getD (V+i) false=true:=by
    by_cases hb:m.getD (V+i) false=true
    ·exact hb
    ·rw [if_neg hb] at hmark;exact hmark
   refine eR V nodes i _ _ ?_;rw [if_pos hmi,hnd];have:=hargs i h a ha;exact sP _ m a ha (by omega)
  ·exact ih (if m.getD (V+k) false then bW m (nodes.getD k bB).args else m) (by omega) (by split;rw [fV,hm];exact hm) i (by omega) h hmark a ha
theorem dh (V T:Nat) (f:Fm) (hok:Ok f V T):∀ i (hi:i<f.nodes.length),(aQ V T f.nodes).getD (V+i) false=true->∀ a∈f.nodes[i].args,(aQ V T f.nodes).getD a.toNat false=true:=by
 intro i hi h a ha;exact nO V f.nodes hok.args f.nodes.length _ (Nat.le_refl _) (by simp) i hi hi h a ha
def Ge (V e:Nat) (a:Int):Int:=if a=e then V else if a<V then a else a+1
def GC (V e:Nat) (x:Nd):Nd:=⟨x.kind,x.k,x.args.map (Ge V e)⟩
def GK (V e:Nat) (k:Int) (f:Fm) (T:Nat):Fm:=⟨V,⟨0,k,[]⟩ :: f.nodes.map (GC V e),Ge V e T⟩
def FU (s e:Nat) (b:Bool):Nat:=if b then s ||| 2^e else aM s (2^e)
theorem x_ (l:List Bool) (x:Bool) (i:Nat) (h:i=l.length):(l++[x]).getD i false=x:=by subst h;simp [List.getD_eq_getElem?_getD]
def Fk (l:List Nat) (fl wk:Nat):List Nat:=aT ((l.filter fun s=>s &&& wk == 0).map fun s=>aM s fl)
theorem bi (a b i:Nat):(aM a b).testBit i=(a.testBit i&&!b.testBit i):=by
 unfold aM;rw [Nat.testBit_xor,Nat.testBit_and];cases a.testBit i <;> cases b.testBit i <;> rfl
def cond (V:Nat) (a:Int):Nat:=if a<V then 2^a.toNat else 2^(24+(a - V).toNat)
def bp (V r:Nat) (a:Int):Nat:=r ||| cond V a
def aZ (V:Nat):List Int->Nat->Nat->List Nat
 | [],k,r=>if k=0 then [r] else []
 | a :: l,k,r=>if k=0 then [r] else aZ V l (k - 1) (bp V r a)++aZ V l k r
def em (V:Nat) (x:Nd) (i r:Nat):List Nat :=
 if x.kind=0 then (if x.k=1 then [aM r (2^(24+i))] else [])
 else if x.kind=2 then [x.args.foldl (bp V) (aM r (2^(24+i)))]
 else if x.kind=3 then x.args.map (bp V (aM r (2^(24+i))))
 else aZ V x.args x.k.toNat (aM r (2^(24+i)))
def uN (V:Nat) (x:Nd) (i r:Nat):List Nat:=if r.testBit (24+i) then em V x i r else [r]
def cZ (V:Nat) (x:Nd) (i:Nat) (R:List Nat):List Nat:=R.flatMap (uN V x i)
def dD (V:Nat) (nodes:List Nd):Nat->List Nat->Option (List Nat × List Nat)
 | 0,R=>some (R,[])
 | i+1,R =>
  if R.any (fun r=>r.testBit (24+i))=true then
   if (cZ V (nodes.getD i bB) i R).length<=4096 then
    if (aT (cZ V (nodes.getD i bB) i R)).length<=1024 then (dD V nodes i (aT (cZ V (nodes.getD i bB) i R))).map fun p=>(p.1,(aT (cZ V (nodes.getD i bB) i R)).length :: p.2)
    else none
   else none
  else dD V nodes i R
def dx (V T:Nat) (nodes:List Nd):Option (List Nat × List Nat):=dD V nodes nodes.length [cond V T]
def pf (P:Nat->Prop) (r:Nat):Prop:=∀ i,r.testBit i=true->P i
def upP (R:List Nat) (P:Nat->Prop):Prop:=∃ r∈R,pf P r
theorem rI (P:Nat->Prop) (a b:Nat):pf P (a ||| b) ↔ pf P a/\pf P b:=by
 unfold pf;constructor
 ·intro h;exact ⟨fun i hi=>h i (by simp [hi]),fun i hi=>h i (by simp [hi])⟩
 ·rintro ⟨h1,h2⟩ i hi;simp at hi;exact hi.elim (h1 i) (h2 i)
theorem xt (P:Nat->Prop) (m:Nat):pf P (2^m) ↔ P m:=by
 unfold pf;constructor
 ·intro h;exact h m (by simp)
 ·intro h i hi;simp [Nat.testBit_two_pow] at hi;subst hi;exact h
theorem DA {P:Nat->Prop} {a b:Nat} (h:subN a b=true) (hb:pf P b):pf P a:=fun i hi=>hb i (aw.1 h i hi)
theorem zh (P:Nat->Prop) (r m:Nat) (hr:r.testBit m=true):pf P r ↔ pf P (aM r (2^m))/\P m:=by
 unfold pf;constructor
 ·intro h;refine ⟨fun i hi=>?_,h m hr⟩;rw [bi] at hi;simp at hi;exact h i hi.1
 ·rintro ⟨h1,h2⟩ i hi;by_cases e:i=m
  ·subst e;exact h2
  ·refine h1 i ?_;rw [bi,hi,Nat.testBit_two_pow];simp [Ne.symm e]
theorem wn (P:Nat->Prop) (a b:List Nat):upP (a++b) P ↔ upP a P\/upP b P:=by
 unfold upP;constructor
 ·rintro ⟨t,h,h2⟩;exact (List.mem_append.1 h).elim (fun h=>.inl ⟨t,h,h2⟩) fun h=>.inr ⟨t,h,h2⟩
 ·rintro (⟨t,h,h2⟩ | ⟨t,h,h2⟩)
  ·exact ⟨t,List.mem_append.2 (.inl h),h2⟩
  ·exact ⟨t,List.mem_append.2 (.inr h),h2⟩
theorem Cz (P:Nat->Prop) (l:List Nat):upP (aT l) P ↔ upP l P:=by
 constructor
 ·rintro ⟨t,ht,h⟩;exact ⟨t,gx ht,h⟩
 ·rintro ⟨t,ht,h⟩;obtain ⟨y,hy,h2⟩:=nY l _ t (Nat.le_refl _) ht;exact ⟨y,hy,DA h2 h⟩
theorem jz (P:Nat->Prop) (r:Nat):upP [r] P ↔ pf P r:=by
 unfold upP;simp
def zQ (V:Nat) (P:Nat->Prop) (vals:List Bool) (args:List Int):Prop:=∀ a∈args,(pf P (cond V a) ↔ vals.getD a.toNat false=true)
theorem ws (V:Nat) (P:Nat->Prop) (vals:List Bool):∀ (args:List Int) (k r:Nat),zQ V P vals args->(upP (aZ V args k r) P ↔ pf P r/\k<=cS vals args):=by
 intro args;induction args with
 | nil =>
  intro k r _;unfold aZ cS;by_cases h:k=0
  ·rw [if_pos h,jz];simp [h]
  ·rw [if_neg h];constructor
   ·rintro ⟨t,ht,_⟩;cases ht
   ·rintro ⟨_,h2⟩;omega
 | cons a l ih =>
  intro k r hs;have hs':zQ V P vals l:=fun x hx=>hs x (List.mem_cons_of_mem _ hx)
  have ha:=hs a (List.mem_cons_self ..);unfold aZ cS;by_cases h:k=0
  ·rw [if_pos h,jz];simp [h]
  ·rw [if_neg h,wn,ih (k - 1) (bp V r a) hs',ih k r hs'];unfold bp;rw [rI,ha];by_cases hv:vals.getD a.toNat false=true
   ·rw [if_pos hv];constructor
    ·rintro (⟨⟨h1,_⟩,h2⟩ | ⟨h1,h2⟩)
     ·exact ⟨h1,by omega⟩
     ·exact ⟨h1,by omega⟩
    ·rintro ⟨h1,h2⟩;exact .inl ⟨⟨h1,hv⟩,by omega⟩
   ·rw [if_neg hv];constructor
    ·rintro (⟨⟨_,h1⟩,_⟩ | ⟨h1,h2⟩)
     ·exact absurd h1 hv
     ·exact ⟨h1,by omega⟩
    ·rintro ⟨h1,h2⟩;exact .inr ⟨h1,by omega⟩
theorem zw (vals:List Bool) (args:List Int):cS vals args=args.length ↔ ∀ a∈args,vals.getD a.toNat false=true:=by
 induction args with
 | nil=>simp [cS]
 | cons a l ih =>
  have:=Cw vals l;simp only [cS,List.length_cons,List.mem_cons,forall_eq_or_imp];by_cases h:vals.getD a.toNat false=true
  ·rw [if_pos h,<-ih];constructor
   ·intro e;exact ⟨h,by omega⟩
   ·intro e;omega
  ·rw [if_neg h];constructor
   ·intro e;omega
   ·intro e;exact absurd e.1 h
theorem zx (vals:List Bool) (args:List Int):0<cS vals args ↔ ∃ a∈args,vals.getD a.toNat false=true:=by
 induction args with
 | nil=>simp [cS]
 | cons a l ih =>
  simp only [cS,List.mem_cons,exists_eq_or_imp,<-ih];by_cases h:vals.getD a.toNat false=true
  ·rw [if_pos h];exact ⟨fun _=>.inl h,fun _=>by omega⟩
  ·rw [if_neg h];exact ⟨fun e=>.inr (by omega),fun e=>e.elim (fun e=>absurd e h) fun e=>by omega⟩
theorem Ce (V:Nat) (P:Nat->Prop) (args:List Int):∀ r,pf P (args.foldl (bp V) r) ↔ pf P r/\∀ a∈args,pf P (cond V a):=by
 induction args with
 | nil=>intro r;simp
 | cons a l ih =>
  intro r;show pf P (l.foldl (bp V) (bp V r a)) ↔ _;rw [ih,bp,rI];simp [and_assoc]
theorem wt (V:Nat) (P:Nat->Prop) (vals:List Bool) (x:Nd) (i r:Nat) (hs:zQ V P vals x.args) (hk:x.kind=0\/x.kind=2\/x.kind=3\/x.kind=4) (h4:x.kind=4->0<=x.k) :
  upP (em V x i r) P ↔ pf P (aM r (2^(24+i)))/\mN x.kind x.k (cS vals x.args) x.args.length=true:=by
 unfold em mN;rcases hk with hk | hk | hk | hk
 ·simp only [hk,if_true];by_cases e:x.k=1
  ·rw [if_pos e,jz];simp [e]
  ·rw [if_neg e];simp only [beq_iff_eq,e,and_false,iff_false];rintro ⟨t,ht,_⟩;cases ht
 ·simp only [hk,show ¬ (2:Int)=0 by decide,show ¬ (2:Int)=1 by decide,if_true,if_false];rw [jz,Ce,beq_iff_eq,zw];exact and_congr Iff.rfl ⟨fun h a ha=>(hs a ha).1 (h a ha),fun h a ha=>(hs a ha).2 (h a ha)⟩
 ·simp only [hk,show ¬ (3:Int)=0 by decide,show ¬ (3:Int)=1 by decide,show ¬ (3:Int)=2 by decide,if_true,if_false];rw [decide_eq_true_eq,zx];constructor
  ·rintro ⟨t,ht,h⟩;obtain ⟨a,ha,rfl⟩:=List.mem_map.1 ht;have:=(rI P _ _).1 h;exact ⟨this.1,a,ha,(hs a ha).1 this.2⟩
  ·rintro ⟨h,a,ha,h2⟩;exact ⟨_,List.mem_map.2 ⟨a,ha,rfl⟩,(rI P _ _).2 ⟨h,(hs a ha).2 h2⟩⟩
 ·simp only [hk,show ¬ (4:Int)=0 by decide,show ¬ (4:Int)=1 by decide,show ¬ (4:Int)=2 by decide,show ¬ (4:Int)=3 by decide,if_true,if_false];rw [ws V P vals x.args _ _ hs,decide_eq_true_eq];have:=h4 hk;exact and_congr Iff.rfl (by omega)
theorem Cy (V:Nat) (P:Nat->Prop) (vals:List Bool) (x:Nd) (i:Nat) (R:List Nat) (h:∀ r∈R,r.testBit (24+i)=true->zQ V P vals x.args/\(x.kind=0\/x.kind=2\/x.kind=3\/x.kind=4)/\(x.kind=4->0<=x.k)/\(P (24+i) ↔ mN x.kind x.k (cS vals x.args) x.args.length=true)) :
  upP (cZ V x i R) P ↔ upP R P:=by
 unfold cZ
 have one:∀ r∈R,(upP (uN V x i r) P ↔ pf P r):=by
  intro r hr;unfold uN;by_cases hb:r.testBit (24+i)=true
  ·rw [if_pos hb];obtain ⟨h1,h2,h3,h4⟩:=h r hr hb;rw [wt V P vals x i r h1 h2 h3,<-h4,<-zh P r _ hb]
  ·rw [if_neg hb,jz]
 unfold upP;constructor
 ·rintro ⟨t,ht,hs⟩;obtain ⟨r,hr,hrt⟩:=List.mem_flatMap.1 ht;exact ⟨r,hr,(one r hr).1 ⟨t,hrt,hs⟩⟩
 ·rintro ⟨r,hr,hs⟩;obtain ⟨t,ht,h2⟩:=(one r hr).2 hs;exact ⟨t,List.mem_flatMap.2 ⟨r,hr,ht⟩,h2⟩
def aF (b r:Nat):Prop:=∀ j,r.testBit j=true->j<b
theorem qA {b m:Nat} (h:m<b):aF b (2^m):=fun j hj=>by
 simp [Nat.testBit_two_pow] at hj;omega
theorem gC {b x y:Nat} (h1:aF b x) (h2:aF b y):aF b (x ||| y):=fun j hj=>by
 simp at hj;exact hj.elim (h1 j) (h2 j)
theorem tM {b r:Nat} (h:aF (b+1) r):aF b (aM r (2^b)):=fun j hj=>by
 rw [bi,Nat.testBit_two_pow] at hj;simp at hj;have:=h j hj.1;omega
theorem h_ {b c r:Nat} (h:aF b r) (hc:b<=c):aF c r:=fun j hj=>Nat.lt_of_lt_of_le (h j hj) hc
theorem gB {b r:Nat} (h:aF b r):r<2^b:=by
 apply Nat.lt_of_not_le;intro hr;obtain ⟨i,hi,hb⟩:=Nat.exists_ge_and_testBit_of_ge_two_pow hr;have:=h i hb;omega
theorem rE {b r:Nat} (h:r<2^b):aF b r:=fun j hj=>by
 apply Nat.lt_of_not_le;intro hb;rw [Nat.testBit_lt_two_pow (Nat.lt_of_lt_of_le h (Nat.pow_le_pow_right (by omega) hb))] at hj;cases hj
theorem dC {V m:Nat} {a:Int} (h:0<=a/\a<(V:Int)+m) (hV:V<=24):aF (24+m) (cond V a):=by
 unfold cond;split
 ·exact qA (by omega)
 ·exact qA (by omega)
theorem vN {V b:Nat} (args:List Int) (h:∀ a∈args,aF b (cond V a)):∀ r,aF b r->aF b (args.foldl (bp V) r):=by
 induction args with
 | nil=>intro r hr;exact hr
 | cons a l ih=>intro r hr;exact ih (fun x hx=>h x (List.mem_cons_of_mem _ hx)) _ (gC hr (h a (List.mem_cons_self ..)))
theorem rC {V b:Nat} (args:List Int):(∀ a∈args,aF b (cond V a))->∀ k r,aF b r->∀ t∈aZ V args k r,aF b t:=by
 induction args with
 | nil =>
  intro _ k r hr t ht;unfold aZ at ht;split at ht
  ·simp at ht;subst ht;exact hr
  ·cases ht
 | cons a l ih =>
  intro h k r hr t ht;unfold aZ at ht;split at ht
  ·simp at ht;subst ht;exact hr
  ·have h':∀ x∈l,aF b (cond V x):=fun x hx=>h x (List.mem_cons_of_mem _ hx)
   rcases List.mem_append.1 ht with ht | ht
   ·exact ih h' _ _ (gC hr (h a (List.mem_cons_self ..))) t ht
   ·exact ih h' _ _ hr t ht
theorem rD {V i r:Nat} {x:Nd} (hV:V<=24) (ha:∀ a∈x.args,0<=a/\a<(V:Int)+i) (hr:aF (24+i+1) r):∀ t∈em V x i r,aF (24+i) t:=by
 have h':∀ a∈x.args,aF (24+i) (cond V a):=fun a h=>dC (ha a h) hV
 have hd:=tM hr;intro t ht;unfold em at ht;split at ht
 ·split at ht
  ·simp at ht;subst ht;exact hd
  ·cases ht
 ·split at ht
  ·simp at ht;subst ht;exact vN _ h' _ hd
  ·split at ht
   ·obtain ⟨a,h1,rfl⟩:=List.mem_map.1 ht;exact gC hd (h' a h1)
   ·exact rC _ h' _ _ hd t ht
theorem rowLt_less {b r:Nat} (h:aF (b+1) r) (hb:r.testBit b=false):aF b r:=fun j hj=>by
 have:=h j hj;by_cases e:j=b
 ·subst e;rw [hb] at hj;cases hj
 ·omega
theorem oX {V i:Nat} {x:Nd} {R:List Nat} (hV:V<=24) (ha:∀ a∈x.args,0<=a/\a<(V:Int)+i) (hR:∀ r∈R,aF (24+i+1) r):∀ t∈cZ V x i R,aF (24+i) t:=by
 intro t ht;obtain ⟨r,hr,ht⟩:=List.mem_flatMap.1 ht;unfold uN at ht;split at ht
 ·exact rD hV ha (hR r hr) t ht
 ·rename_i h;simp at ht;subst ht;exact rowLt_less (hR t hr) (by simpa using h)
theorem vP {i:Nat} {R:List Nat} (hR:∀ r∈R,aF (24+(i+1)) r) (h:¬ R.any (fun r=>r.testBit (24+i))=true):∀ r∈R,aF (24+i) r:=fun r hr =>
 rowLt_less (b:=24+i) (hR r hr) (by
  cases hb:r.testBit (24+i) with
  | false=>rfl
  | true=>exact absurd (List.any_eq_true.2 ⟨r,hr,hb⟩) h)
def bZ (V:Nat) (mark:List Bool) (r:Nat):Prop:=∀ j,r.testBit (24+j)=true->mark.getD (V+j) false=true
theorem mg {V:Nat} {mark:List Bool} {x y:Nat} (h1:bZ V mark x) (h2:bZ V mark y):bZ V mark (x ||| y):=fun j hj=>by
 simp at hj;exact hj.elim (h1 j) (h2 j)
theorem vj {V:Nat} {mark:List Bool} {x m:Nat} (h:bZ V mark x):bZ V mark (aM x m):=fun j hj=>by
 rw [bi] at hj;simp at hj;exact h j hj.1
theorem iT {V:Nat} {mark:List Bool} {a:Int} (h0:0<=a) (hV:V<=24) (h:mark.getD a.toNat false=true):bZ V mark (cond V a):=by
 intro j hj;unfold cond at hj;split at hj
 ·simp [Nat.testBit_two_pow] at hj;omega
 ·simp [Nat.testBit_two_pow] at hj;rw [show V+j=a.toNat by omega];exact h
theorem sQ {V:Nat} {mark:List Bool} (args:List Int) (h:∀ a∈args,bZ V mark (cond V a)):∀ r,bZ V mark r->bZ V mark (args.foldl (bp V) r):=by
 induction args with
 | nil=>intro r hr;exact hr
 | cons a l ih=>intro r hr;exact ih (fun x hx=>h x (List.mem_cons_of_mem _ hx)) _ (mg hr (h a (List.mem_cons_self ..)))
theorem pG {V:Nat} {mark:List Bool} (args:List Int):(∀ a∈args,bZ V mark (cond V a))->∀ k r,bZ V mark r->∀ t∈aZ V args k r,bZ V mark t:=by
 induction args with
 | nil =>
  intro _ k r hr t ht;unfold aZ at ht;split at ht
  ·simp at ht;subst ht;exact hr
  ·cases ht
 | cons a l ih =>
  intro h k r hr t ht;unfold aZ at ht;split at ht
  ·simp at ht;subst ht;exact hr
  ·have h':∀ x∈l,bZ V mark (cond V x):=fun x hx=>h x (List.mem_cons_of_mem _ hx)
   rcases List.mem_append.1 ht with ht | ht
   ·exact ih h' _ _ (mg hr (h a (List.mem_cons_self ..))) t ht
   ·exact ih h' _ _ hr t ht
theorem mL {V i:Nat} {mark:List Bool} {x:Nd} {R:List Nat} (hV:V<=24) (hR:∀ r∈R,bZ V mark r)
  (ha:mark.getD (V+i) false=true->∀ a∈x.args,0<=a/\mark.getD a.toNat false=true):∀ t∈cZ V x i R,bZ V mark t:=by
 intro t ht;obtain ⟨r,hr,ht⟩:=List.mem_flatMap.1 ht;unfold uN at ht;split at ht
 ·rename_i hb;have hm:=ha (hR r hr i hb);have h':∀ a∈x.args,bZ V mark (cond V a):=fun a h=>iT (hm a h).1 hV (hm a h).2
  have hd:bZ V mark (aM r (2^(24+i))):=vj (hR r hr);unfold em at ht;split at ht
  ·split at ht
   ·simp at ht;subst ht;exact hd
   ·cases ht
  ·split at ht
   ·simp at ht;subst ht;exact sQ _ h' _ hd
   ·split at ht
    ·obtain ⟨a,h1,rfl⟩:=List.mem_map.1 ht;exact mg hd (h' a h1)
    ·exact pG _ h' _ _ hd t ht
 ·simp at ht;subst ht;exact hR t hr
def gb (V s:Nat) (nodes:List Nd) (i:Nat):Prop:=if i<24 then s.testBit i=true else (eQ V s nodes).getD (V+(i - 24)) false=true
theorem qF {V T:Nat} {f:Fm} (hok:Ok f V T) (s:Nat) (args:List Int) (h:∀ a∈args,0<=a):zQ V (gb V s f.nodes) (eQ V s f.nodes) args:=by
 intro a ha;have h0:=h a ha;have hV:=hok.v24;unfold cond;by_cases hlt:a<V
 ·rw [if_pos hlt,xt];unfold gb;rw [if_pos (by omega)];unfold eQ;rw [ib V s f.nodes _ a.toNat (by omega)]
 ·rw [if_neg hlt,xt];unfold gb;rw [if_neg (by omega),show V+(24+(a - (V:Int)).toNat - 24)=a.toNat by omega]
theorem uZ {V T:Nat} {f:Fm} (hok:Ok f V T) (s i:Nat) (hi:i<f.nodes.length):gb V s f.nodes (24+i) ↔ mN f.nodes[i].kind f.nodes[i].k (cS (eQ V s f.nodes) f.nodes[i].args) f.nodes[i].args.length=true:=by
 have hnd:f.nodes.getD i bB=f.nodes[i]:=by simp [List.getD_eq_getElem?_getD,hi]
 unfold gb;rw [if_neg (by omega),show V+(24+i - 24)=V+i by omega];unfold eQ;rw [ic V s f.nodes (i+1) f.nodes.length (V+i) (by omega) (by omega)];show (bw V s f.nodes i++[_]).getD (V+i) false=true ↔ _
 rw [x_ _ _ _ (gS V s f.nodes i).symm,hnd,
  ud (bw V s f.nodes i) (bw V s f.nodes f.nodes.length) f.nodes[i].args fun x hx=>by
   have:=hok.args i hi x hx;exact (ic V s f.nodes i f.nodes.length x.toNat (by omega) (by omega)).symm]
theorem CA {V T:Nat} {f:Fm} (hok:Ok f V T) (hs:cC V T f=true) (s:Nat):∀ i R p,i<=f.nodes.length->(∀ r∈R,bZ V (aQ V T f.nodes) r)->dD V f.nodes i R=some p->(upP p.1 (gb V s f.nodes) ↔ upP R (gb V s f.nodes)):=by
 intro i;induction i with
 | zero=>intro R p _ _ h;cases h;exact Iff.rfl
 | succ i ih =>
  intro R p hi hm h;have hil:i<f.nodes.length:=by omega
  have hnd:f.nodes.getD i bB=f.nodes[i]:=by simp [List.getD_eq_getElem?_getD,hil]
  unfold dD at h;rw [hnd] at h;split at h
  ·split at h
   ·split at h
    ·cases h1:dD V f.nodes i (aT (cZ V f.nodes[i] i R)) with
     | none=>rw [h1] at h;cases h
     | some q =>
      rw [h1] at h;cases h
      have hm2:∀ r∈aT (cZ V f.nodes[i] i R),bZ V (aQ V T f.nodes) r:=fun r hr =>
       mL hok.v24 hm (fun hk a ha=>⟨(hok.args i hil a ha).1,dh V T f hok i hil hk a ha⟩) r (gx hr)
      rw [ih _ q (by omega) hm2 h1,Cz];refine Cy V _ (eQ V s f.nodes) f.nodes[i] i R fun r hr hb=>?_
      have hmk:=hm r hr i hb;have hkd:=jp hok hs i hil hmk;refine ⟨qF hok s _ fun a ha=>(hok.args i hil a ha).1,hkd,fun h4=>?_,uZ hok s i hil⟩;have:=hok.arity i hil;unfold jA at this;rw [if_neg (by omega),if_pos h4] at this;split at this
      ·omega
      ·cases this
    ·cases h
   ·cases h
  ·exact ih R p (by omega) hm h
theorem vO {V T:Nat} {f:Fm} (hok:Ok f V T):∀ i R p,i<=f.nodes.length->(∀ r∈R,aF (24+i) r)->dD V f.nodes i R=some p->∀ r∈p.1,aF 24 r:=by
 intro i;induction i with
 | zero=>intro R p _ hR h;cases h;exact hR
 | succ i ih =>
  intro R p hi hR h;have hil:i<f.nodes.length:=by omega
  have hnd:f.nodes.getD i bB=f.nodes[i]:=by simp [List.getD_eq_getElem?_getD,hil]
  unfold dD at h;rw [hnd] at h;split at h
  ·split at h
   ·split at h
    ·cases h1:dD V f.nodes i (aT (cZ V f.nodes[i] i R)) with
     | none=>rw [h1] at h;cases h
     | some q =>
      rw [h1] at h;cases h;exact ih _ q (by omega) (fun r hr=>oX hok.v24 (hok.args i hil) hR r (gx hr)) h1
    ·cases h
   ·cases h
  ·rename_i hany;exact ih R p (by omega) (vP hR hany) h
theorem Ae (V:Nat) (nodes:List Nd):∀ i R p,Good R->dD V nodes i R=some p->Good p.1:=by
 intro i;induction i with
 | zero=>intro R p hR h;cases h;exact hR
 | succ i ih =>
  intro R p hR h;unfold dD at h;split at h
  ·split at h
   ·split at h
    ·cases h1:dD V nodes i (aT (cZ V (nodes.getD i bB) i R)) with
     | none=>rw [h1] at h;cases h
     | some q =>
      rw [h1] at h;cases h;exact ih _ q ⟨nS _,by assumption⟩ h1
    ·cases h
   ·cases h
  ·exact ih R p hR h
theorem dt {V T:Nat} {f:Fm} (hok:Ok f V T) (hs:cC V T f=true) {p:List Nat × List Nat} (h:dx V T f.nodes=some p) :
  Good p.1/\(∀ r∈p.1,Mk r)/\∀ s,up p.1 s ↔ (eQ V s f.nodes).getD T false=true:=by
 have hT:=hok.tlt;have hV:=hok.v24
 have hlt:∀ r∈[cond V (T:Int)],aF (24+f.nodes.length) r:=by
  intro r hr;simp at hr;subst hr;exact dC (by omega) hV
 have hmk:∀ r∈[cond V (T:Int)],bZ V (aQ V T f.nodes) r:=by
  intro r hr;simp at hr;subst hr;refine iT (by omega) hV ?_;unfold aQ;refine eR V f.nodes _ _ _ ?_;rw [List.getD_eq_getElem?_getD,Int.toNat_natCast,List.getElem?_set_self (by simp;omega)];rfl
 have h24:=vO hok _ _ p (Nat.le_refl _) hlt h;refine ⟨Ae V f.nodes _ _ p (iM _) h,fun r hr=>gB (h24 r hr),fun s=>?_⟩;have hup:=CA hok hs s _ _ p (Nat.le_refl _) hmk h
 have e1:up p.1 s ↔ upP p.1 (gb V s f.nodes):=by
  unfold up upP
  have:∀ r∈p.1,(subN r s=true ↔ pf (gb V s f.nodes) r):=by
   intro r hr;rw [aw];unfold pf gb;constructor
   ·intro h i hi;rw [if_pos (h24 r hr i hi)];exact h i hi
   ·intro h i hi;have:=h i hi;rw [if_pos (h24 r hr i hi)] at this;exact this
  exact ⟨fun ⟨r,hr,h⟩=>⟨r,hr,(this r hr).1 h⟩,fun ⟨r,hr,h⟩=>⟨r,hr,(this r hr).2 h⟩⟩
 rw [e1,hup,jz];have:=qF hok s [(T:Int)] (by simp) (T:Int) (by simp);rw [this];simp
theorem u' (l:List Nat):∀ (out done:List Nat),(done++l).Pairwise (fun a b=>pc a<=pc b)->out.Nodup->(∀ x∈out,x∈done)->(∀ x∈done,∃ t∈out,subN t x=true)->(∀ x∈out,∀ y∈done,subN y x=true->y=x) ->
  (l.foldl aS out).Nodup/\(∀ x∈l.foldl aS out,x∈done++l)/\(∀ x∈done++l,∃ t∈l.foldl aS out,subN t x=true)/\∀ x∈l.foldl aS out,∀ y∈done++l,subN y x=true->y=x:=by
 induction l with
 | nil=>intro out done _ h1 h2 h3 h4;simpa using ⟨h1,h2,h3,h4⟩
 | cons s l ih =>
  intro out done hp h1 h2 h3 h4;have hle:∀ x∈done,pc x<=pc s:=fun x hx=>(List.pairwise_append.1 hp).2.2 x hx s (List.mem_cons_self ..)
  have hp':((done++[s])++l).Pairwise (fun a b=>pc a<=pc b):=by simpa using hp
  have e:done++s :: l=(done++[s])++l:=by simp
  rw [e];show (l.foldl aS (aS out s)).Nodup/\_;by_cases hk:out.any (fun t=>subN t s)=true
  ·rw [show (s :: l).foldl aS out=l.foldl aS out by show l.foldl aS (aS out s)=_;rw [show aS out s=out from if_pos hk],show aS out s=out from if_pos hk];obtain ⟨t,ht,hts⟩:=List.any_eq_true.1 hk;refine ih out (done++[s]) hp' h1 (fun x hx=>List.mem_append.2 (.inl (h2 x hx))) (fun x hx=>?_) fun x hx y hy hyx=>?_
   ·rcases List.mem_append.1 hx with hx | hx
    ·exact h3 x hx
    ·simp at hx;subst hx;exact ⟨t,ht,hts⟩
   ·rcases List.mem_append.1 hy with hy | hy
    ·exact h4 x hx y hy hyx
    ·simp at hy;subst hy;have:=h4 x hx t (h2 t ht) (e_ hts hyx);subst this;exact gH hyx hts
  ·rw [show (s :: l).foldl aS out=l.foldl aS (out++[s]) by show l.foldl aS (aS out s)=_;rw [show aS out s=out++[s] from if_neg hk],show aS out s=out++[s] from if_neg hk];have hk':∀ t∈out,¬ subN t s=true:=fun t ht h=>hk (List.any_eq_true.2 ⟨t,ht,h⟩)
   refine ih (out++[s]) (done++[s]) hp' ?_ (fun x hx=>?_) (fun x hx=>?_) fun x hx y hy hyx=>?_
   ·rw [List.nodup_append];refine ⟨h1,by simp,fun a ha b hb=>?_⟩;simp at hb;subst hb;intro e2;subst e2;exact hk' _ ha (dr _)
   ·rcases List.mem_append.1 hx with hx | hx
    ·exact List.mem_append.2 (.inl (h2 x hx))
    ·exact List.mem_append.2 (.inr hx)
   ·rcases List.mem_append.1 hx with hx | hx
    ·obtain ⟨t,ht,h⟩:=h3 x hx;exact ⟨t,List.mem_append.2 (.inl ht),h⟩
    ·simp at hx;subst hx;exact ⟨x,by simp,dr x⟩
   ·rcases List.mem_append.1 hx with hx' | hx
    ·rcases List.mem_append.1 hy with hy | hy
     ·exact h4 x hx' y hy hyx
     ·simp at hy;subst hy;exact (fZ hyx).2 (by have:=(fZ hyx).1;have:=hle x (h2 x hx');omega)
    ·simp at hx;subst hx;rcases List.mem_append.1 hy with hy | hy
     ·obtain ⟨t,ht,h⟩:=h3 y hy;exact absurd (e_ h hyx) (hk' t ht)
     ·simp at hy;exact hy
theorem yu {l:List Nat} (h:l.Pairwise eU):l.Nodup:=h.imp fun {a b} hab e=>by subst e;exact eB a hab
theorem tj {l r:List Nat} (h1:l.Nodup) (h2:r.Nodup) (h:∀ x,x∈l ↔ x∈r):l.Perm r:=(List.perm_ext_iff_of_nodup h1 h2).2 h
theorem vd {l F:List Nat} (hp:l.Perm F) (hs:l.Pairwise fun a b=>pc a<=pc b):(gV l).Perm (aT F):=by
 obtain ⟨h1,h2,h3,h4⟩:=u' l [] [] (by simpa using hs) (by simp) (by simp) (by simp) (by simp);refine tj h1 (yu (fh F)) fun x=>?_
 rw [bX];simp only [List.nil_append] at h2 h3 h4;show x∈l.foldl aS [] ↔ _;constructor
 ·intro hx;exact ⟨hp.mem_iff.1 (h2 x hx),fun y hy hyx=>h4 x hx y (hp.mem_iff.2 hy) hyx⟩
 ·rintro ⟨hx,hmin⟩;obtain ⟨t,ht,htx⟩:=h3 x (hp.mem_iff.2 hx);have:=hmin t (hp.mem_iff.1 (h2 t ht)) htx;subst this;exact ht
theorem gk {V i:Nat} {x:Nd} {L R:List Nat} (h:L.Perm R):(cZ V x i L).Perm (cZ V x i R):=h.flatMap_right _
theorem mh {L R:List Nat} (h:L.Perm R):aT L=aT R:=vl _ _ fun _=>h.mem_iff
theorem qD (V:Nat) (nodes:List Nd) (i:Nat) (R:List Nat):∀ m,i<=m->(∀ j,i<=j->j<m->R.any (fun r=>r.testBit (24+j))=false)->dD V nodes m R=dD V nodes i R:=by
 intro m;induction m with
 | zero =>
      intro h _;have:i=0:=by omega
      subst this;rfl
 | succ m ih =>
  intro h hj;by_cases e:i=m+1
  ·subst e;rfl
  ·rw [<-ih (by omega) fun j h1 h2=>hj j h1 (by omega)]
   conv=>lhs;unfold dD
   rw [if_neg (by rw [hj m (by omega) (by omega)];simp)]
theorem oI (a b:Nat) (ha:a<18446744073709551616) (hb:b<18446744073709551616):bits .or .u64 (a:Int) (b:Int)=((a ||| b:Nat):Int):=by
 have h:(BitVec.ofInt 64 (a:Int) ||| BitVec.ofInt 64 (b:Int)).toNat=a ||| b:=by rw [BitVec.toNat_or,bt a ha,bt b hb]
 show IntKind.u64.wrap (((BitVec.ofInt 64 (a:Int) ||| BitVec.ofInt 64 (b:Int)).toNat:Nat):Int)=_;rw [h];have:=Nat.or_lt_two_pow (n:=64) (x:=a) (y:=b) (by omega) (by omega);exact wrap_u64 _ (by omega)
theorem jU (a b:Nat) (ha:a<18446744073709551616) (hb:b<18446744073709551616):bits .andNot .u64 (a:Int) (b:Int)=((aM a b:Nat):Int):=by
 have h:(BitVec.ofInt 64 (a:Int) &&& ~~~ BitVec.ofInt 64 (b:Int)).toNat=aM a b:=by
  have e:BitVec.ofInt 64 (a:Int) &&& ~~~ BitVec.ofInt 64 (b:Int)=BitVec.ofInt 64 (a:Int) ^^^ (BitVec.ofInt 64 (a:Int) &&& BitVec.ofInt 64 (b:Int)):=by
   ext i hi
   simp only [BitVec.getElem_and,BitVec.getElem_not,BitVec.getElem_xor];cases (BitVec.ofInt 64 (a:Int))[i] <;> cases (BitVec.ofInt 64 (b:Int))[i] <;> rfl
  rw [e,BitVec.toNat_xor,BitVec.toNat_and,bt a ha,bt b hb];rfl
 show IntKind.u64.wrap (((BitVec.ofInt 64 (a:Int) &&& ~~~ BitVec.ofInt 64 (b:Int)).toNat:Nat):Int)=_;rw [h];have h2:aM a b<2^64:=Nat.xor_lt_two_pow (by omega) (Nat.lt_of_le_of_lt Nat.and_le_left (by omega));exact wrap_u64 _ (by omega)
theorem nE (i:Nat) (h:i<64):IntKind.u64.wrap ((2:Int)^i)=((2^i:Nat):Int):=by
 have h1:2^i<18446744073709551616:=Nat.lt_of_lt_of_le (Nat.pow_lt_pow_right (by omega) h:2^i<2^64) (by decide);have:=wrap_u64 (2^i) h1;rw [<-this];simp
theorem lj {i:Nat} (h:i<64):2^i<18446744073709551616:=Nat.lt_of_lt_of_le (Nat.pow_lt_pow_right (by omega) h:2^i<2^64) (by decide)
theorem tB {i:Nat} (h:i<24):2^i<16777216:=Nat.lt_of_lt_of_le (Nat.pow_lt_pow_right (by omega) h:2^i<2^24) (by decide)
theorem wT (l i:Nat) (hl:l<18446744073709551616):(bits .and .u64 ((l:Int) / 2^i) 1 == 1)=l.testBit i:=by
 have h1:(l:Int) / 2^i=((l / 2^i:Nat):Int):=by simp
 have h2:l / 2^i<18446744073709551616:=Nat.lt_of_le_of_lt (Nat.div_le_self _ _) hl;rw [h1,show (1:Int)=((1:Nat):Int) from rfl,dP _ _ h2 (by decide),Nat.and_one_is_mod,Nat.testBit_eq_decide_div_mod_eq,Bool.eq_iff_iff];simp;omega
theorem Ey (e l h i:Nat) (hl:l<18446744073709551616) (hi:i<64) (w:World) :
  Calls Tryz.prog 127 #[.agg #[.int .i64 e,.int .u64 l,.int .u64 h],.int .i64 i] w fun e' w'=>e'=.returned (.bool (l.testBit i))/\af w w':=by
 have q0:(i:Int) / 64=0:=by omega
 have q1:(i:Int) % 64=i:=by omega
 have q2:Int.tdiv (i:Int) 64=0:=by rw [Int.tdiv_eq_ediv_of_nonneg (by omega)];exact q0
 have q3:Int.tmod (i:Int) 64=i:=by rw [Int.tmod_eq_emod_of_nonneg (by omega)];exact q1
 have HB:=ae (wT l i hl);go_enter Tryz.func127,Tryz.ntmps127;go_wp2;go_ret;exact ⟨by rw [<-HB.out];rfl,(af.refl _).alloc _⟩
theorem Ex (e l h j:Nat) (hl:h<18446744073709551616) (hj:j<64) (w:World) :
  Calls Tryz.prog 127 #[.agg #[.int .i64 e,.int .u64 l,.int .u64 h],.int .i64 (64+j:Nat)] w fun e' w'=>e'=.returned (.bool (h.testBit j))/\af w w':=by
 obtain ⟨i,hi⟩:∃ i,i=64+j:=⟨_,rfl⟩;rw [<-hi];have q0:(i:Int) / 64=1:=by omega
 have q1:(i:Int) % 64=j:=by omega
 have q2:Int.tdiv (i:Int) 64=1:=by rw [Int.tdiv_eq_ediv_of_nonneg (by omega)];exact q0
 have q3:Int.tmod (i:Int) 64=j:=by rw [Int.tmod_eq_emod_of_nonneg (by omega)];exact q1
 have HB:=ae (wT h j hl);clear hi;go_enter Tryz.func127,Tryz.ntmps127;go_wp2;go_ret;exact ⟨by rw [<-HB.out];rfl,(af.refl _).alloc _⟩
theorem xo (V:Nat) (h:V<=24):wrap64 ((2:Int)^V)=((2^V:Nat):Int):=by
 have h1:(2:Nat)^V<=2^24:=Nat.pow_le_pow_right (by omega) h;rw [show (2:Int)^V=((2^V:Nat):Int) by simp];generalize (2:Nat)^V=z at h1⊢;unfold wrap64;omega
theorem DO (e l h a:Nat) (V:Nat) (v:Value) (T:Int) (hs:∃ a n c,v=.slice a n c) (he:e<16777216) (hV:V<=24) (ha:a<V) (w:World) :
  Calls Tryz.prog 125 #[.agg #[.int .i64 e,.int .u64 l,.int .u64 h],.agg #[.int .i64 V,v,.int .i64 T],.int .i64 a] w fun e' w'=>e'=.returned (.agg #[.int .i64 (e ||| 2^a:Nat),.int .u64 l,.int .u64 h])/\af w w':=by
 obtain ⟨sa,n,c,rfl⟩:=hs;have h1:(a:Int)<(V:Int):=by omega
 have h2:¬ (a:Int)<0:=by omega
 have p1:=xo a (by omega);have hp:=tB (show a<24 by omega);obtain ⟨z,hz⟩:∃ z,z=2^a:=⟨_,rfl⟩;rw [<-hz] at p1 hp⊢;have p2:=oH e z (by omega) (by omega);clear hz;obtain ⟨y,hy⟩:∃ y,y=e ||| z:=⟨_,rfl⟩
 rw [<-hy] at p2⊢;clear hy;go_enter Tryz.func125,Tryz.ntmps125;go_wp2;go_region;all_goals go_wp2
 all_goals exact bodyPost_ret (v:=.agg #[.int .i64 y,.int .u64 l,.int .u64 h]) (by simp [results,Tryz.results125,go_sem]) rfl ⟨rfl,by first | exact ((((af.refl _).alloc _).alloc _).alloc _) | exact ((((af.refl _).alloc _).alloc _).alloc _).drew⟩
theorem DQ (e l h j:Nat) (V:Nat) (v:Value) (T:Int) (hs:∃ a n c,v=.slice a n c) (hl:l<18446744073709551616) (hV:V<=24) (hj:j<64) (w:World) (y:Nat) (hy:y=l ||| 2^j) :
  Calls Tryz.prog 125 #[.agg #[.int .i64 e,.int .u64 l,.int .u64 h],.agg #[.int .i64 V,v,.int .i64 T],.int .i64 (V+(j):Nat)] w fun e' w'=>e'=.returned (.agg #[.int .i64 e,.int .u64 y,.int .u64 h])/\af w w':=by
 obtain ⟨sa,n,c,rfl⟩:=hs;obtain ⟨i,hi⟩:∃ i,i=j:=⟨_,rfl⟩;obtain ⟨a,ha⟩:∃ a,a=V+i:=⟨_,rfl⟩;rw [<-hi,<-ha];have h1:¬ (a:Int)<(V:Int):=by omega
 have h3:IntKind.i64.wrap ((a:Int) - (V:Int))=(i:Int):=by rw [IntKind.wrap_i64];omega
 have h4:(a:Int) - (V:Int)=(i:Int):=by omega
 have q0:(i:Int) / 64=0:=by omega
 have q1:(i:Int) % 64=j:=by omega
 have q2:Int.tdiv (i:Int) 64=0:=by rw [Int.tdiv_eq_ediv_of_nonneg (by omega)];exact q0
 have q3:Int.tmod (i:Int) 64=j:=by rw [Int.tmod_eq_emod_of_nonneg (by omega)];exact q1
 have q4:¬ (j:Int)<0:=by omega
 have p1:=nE j hj;have hp:=lj hj;obtain ⟨z,hz⟩:∃ z,z=2^j:=⟨_,rfl⟩;rw [<-hz] at p1 hp hy;have p2:=oI l z hl hp;rw [<-hy] at p2;clear hz hy hi ha;go_enter Tryz.func125,Tryz.ntmps125;go_wp2;go_region;all_goals go_wp2
 all_goals exact bodyPost_ret (v:=.agg #[.int .i64 e,.int .u64 y,.int .u64 h]) (by simp [results,Tryz.results125,go_sem]) rfl ⟨rfl,by first | exact ((((af.refl _).alloc _).alloc _).alloc _) | exact ((((af.refl _).alloc _).alloc _).alloc _).drew⟩
theorem wE (e l h j:Nat) (hl:l<18446744073709551616) (hj:j<64) (w:World) (y:Nat) (hy:y=aM l (2^j)) :
  Calls Tryz.prog 184 #[.agg #[.int .i64 e,.int .u64 l,.int .u64 h],.int .i64 (j:Nat)] w fun e' w'=>e'=.returned (.agg #[.int .i64 e,.int .u64 y,.int .u64 h])/\af w w':=by
 obtain ⟨i,hi⟩:∃ i,i=j:=⟨_,rfl⟩;rw [<-hi];have q0:(i:Int) / 64=0:=by omega
 have q1:(i:Int) % 64=j:=by omega
 have q2:Int.tdiv (i:Int) 64=0:=by rw [Int.tdiv_eq_ediv_of_nonneg (by omega)];exact q0
 have q3:Int.tmod (i:Int) 64=j:=by rw [Int.tmod_eq_emod_of_nonneg (by omega)];exact q1
 have q4:¬ (j:Int)<0:=by omega
 have p1:=nE j hj;have hp:=lj hj;obtain ⟨z,hz⟩:∃ z,z=2^j:=⟨_,rfl⟩;rw [<-hz] at p1 hp hy;have p2:=jU l z hl hp;rw [<-hy] at p2;clear hz hy hi;go_enter Tryz.func184,Tryz.ntmps184;go_wp2;go_region;all_goals go_wp2
 all_goals exact bodyPost_ret (v:=.agg #[.int .i64 e,.int .u64 y,.int .u64 h]) (by simp [results,Tryz.results184,go_sem]) rfl ⟨rfl,by first | exact ((((af.refl _).alloc _).alloc _)) | exact ((((af.refl _).alloc _).alloc _)).drew⟩
theorem DP (e l h j:Nat) (V:Nat) (v:Value) (T:Int) (hs:∃ a n c,v=.slice a n c) (hl:h<18446744073709551616) (hV:V<=24) (hj:j<64) (w:World) (y:Nat) (hy:y=h ||| 2^j) :
  Calls Tryz.prog 125 #[.agg #[.int .i64 e,.int .u64 l,.int .u64 h],.agg #[.int .i64 V,v,.int .i64 T],.int .i64 (V+(64+j):Nat)] w fun e' w'=>e'=.returned (.agg #[.int .i64 e,.int .u64 l,.int .u64 y])/\af w w':=by
 obtain ⟨sa,n,c,rfl⟩:=hs;obtain ⟨i,hi⟩:∃ i,i=64+j:=⟨_,rfl⟩;obtain ⟨a,ha⟩:∃ a,a=V+i:=⟨_,rfl⟩;rw [<-hi,<-ha];have h1:¬ (a:Int)<(V:Int):=by omega
 have h3:IntKind.i64.wrap ((a:Int) - (V:Int))=(i:Int):=by rw [IntKind.wrap_i64];omega
 have h4:(a:Int) - (V:Int)=(i:Int):=by omega
 have q0:(i:Int) / 64=1:=by omega
 have q1:(i:Int) % 64=j:=by omega
 have q2:Int.tdiv (i:Int) 64=1:=by rw [Int.tdiv_eq_ediv_of_nonneg (by omega)];exact q0
 have q3:Int.tmod (i:Int) 64=j:=by rw [Int.tmod_eq_emod_of_nonneg (by omega)];exact q1
 have q4:¬ (j:Int)<0:=by omega
 have p1:=nE j hj;have hp:=lj hj;obtain ⟨z,hz⟩:∃ z,z=2^j:=⟨_,rfl⟩;rw [<-hz] at p1 hp hy;have p2:=oI h z hl hp;rw [<-hy] at p2;clear hz hy hi ha;go_enter Tryz.func125,Tryz.ntmps125;go_wp2;go_region;all_goals go_wp2
 all_goals exact bodyPost_ret (v:=.agg #[.int .i64 e,.int .u64 l,.int .u64 y]) (by simp [results,Tryz.results125,go_sem]) rfl ⟨rfl,by first | exact ((((af.refl _).alloc _).alloc _).alloc _) | exact ((((af.refl _).alloc _).alloc _).alloc _).drew⟩
theorem wD (e l h j:Nat) (hl:h<18446744073709551616) (hj:j<64) (w:World) (y:Nat) (hy:y=aM h (2^j)) :
  Calls Tryz.prog 184 #[.agg #[.int .i64 e,.int .u64 l,.int .u64 h],.int .i64 (64+j:Nat)] w fun e' w'=>e'=.returned (.agg #[.int .i64 e,.int .u64 l,.int .u64 y])/\af w w':=by
 obtain ⟨i,hi⟩:∃ i,i=64+j:=⟨_,rfl⟩;rw [<-hi];have q0:(i:Int) / 64=1:=by omega
 have q1:(i:Int) % 64=j:=by omega
 have q2:Int.tdiv (i:Int) 64=1:=by rw [Int.tdiv_eq_ediv_of_nonneg (by omega)];exact q0
 have q3:Int.tmod (i:Int) 64=j:=by rw [Int.tmod_eq_emod_of_nonneg (by omega)];exact q1
 have q4:¬ (j:Int)<0:=by omega
 have p1:=nE j hj;have hp:=lj hj;obtain ⟨z,hz⟩:∃ z,z=2^j:=⟨_,rfl⟩;rw [<-hz] at p1 hp hy;have p2:=jU h z hl hp;rw [<-hy] at p2;clear hz hy hi;go_enter Tryz.func184,Tryz.ntmps184;go_wp2;go_region;all_goals go_wp2
 all_goals exact bodyPost_ret (v:=.agg #[.int .i64 e,.int .u64 l,.int .u64 y]) (by simp [results,Tryz.results184,go_sem]) rfl ⟨rfl,by first | exact ((((af.refl _).alloc _).alloc _)) | exact ((((af.refl _).alloc _).alloc _)).drew⟩
def bv:List Nat->Nat
 | []=>0
 | a :: l=>a+256*bv l
def eO (m:Nat) (l:List Nat):Nat:=bv (l.map fun _=>m)
theorem Eo (l:List Nat) (h:∀ a∈l,a<256):(bv l / 2 &&& eO 0x55 l)+(bv l &&& eO 0x55 l)=bv (l.map t1):=by
 induction l with
 | nil=>simp [bv,eO]
 | cons a l ih =>
  have ha:=h a (List.mem_cons_self ..);have ih':=ih fun x hx=>h x (List.mem_cons_of_mem _ hx)
  have hk:=mB a ha;show ((a+256*bv l) / 2 &&& (0x55+256*eO 0x55 l))+((a+256*bv l) &&& (0x55+256*eO 0x55 l))=t1 a+256*bv (l.map t1)
  rw [show (a+256*bv l) / 2=256*(bv l / 2)+(a / 2+128*(bv l % 2)) by omega,show a+256*bv l=256*bv l+a by omega,show 0x55+256*eO 0x55 l=256*eO 0x55 l+0x55 by omega,
   fK _ _ _ _ (by omega) (by omega),fK _ _ _ _ ha (by omega),<-ih']
  have e:(a / 2+128*(bv l % 2)) &&& 0x55=a / 2 &&& 0x55:=by
   have:bv l % 2=0\/bv l % 2=1:=by omega
   rcases this with h | h <;> rw [h]
   ·rfl
   ·exact hk.1.symm
  rw [e];unfold t1;omega
theorem Ep (l:List Nat) (h:∀ a∈l,a<171):(bv l / 4 &&& eO 0x33 l)+(bv l &&& eO 0x33 l)=bv (l.map t2):=by
 induction l with
 | nil=>simp [bv,eO]
 | cons a l ih =>
  have ha:=h a (List.mem_cons_self ..);have ih':=ih fun x hx=>h x (List.mem_cons_of_mem _ hx)
  have hk:=mC a ha (bv l % 4) (by omega);show ((a+256*bv l) / 4 &&& (0x33+256*eO 0x33 l))+((a+256*bv l) &&& (0x33+256*eO 0x33 l))=t2 a+256*bv (l.map t2)
  rw [show (a+256*bv l) / 4=256*(bv l / 4)+(a / 4+64*(bv l % 4)) by omega,show a+256*bv l=256*bv l+a by omega,show 0x33+256*eO 0x33 l=256*eO 0x33 l+0x33 by omega,
   fK _ _ _ _ (by omega) (by omega),fK _ _ _ _ (by omega) (by omega),<-ih',<-hk.1]
  unfold t2;omega
theorem xF (l:List Nat):bv l % 16=(l.headD 0) % 16:=by
 cases l with
 | nil=>rfl
 | cons a l=>show (a+256*bv l) % 16=a % 16;omega
theorem Eq (l:List Nat) (h:∀ a∈l,a<103/\a % 16<7):(bv l / 16+bv l) &&& eO 15 l=bv (l.map t3):=by
 induction l with
 | nil=>simp [bv,eO]
 | cons a l ih =>
  have ha:=h a (List.mem_cons_self ..);have ih':=ih fun x hx=>h x (List.mem_cons_of_mem _ hx)
  have hm:bv l % 16<7:=by
   rw [xF];cases l with
   | nil=>decide
   | cons b l=>exact (h b (by simp)).2
  have hk:=wU a ha.1 (bv l % 16) hm;show ((a+256*bv l) / 16+(a+256*bv l)) &&& (15+256*eO 15 l)=t3 a+256*bv (l.map t3)
  rw [show (a+256*bv l) / 16+(a+256*bv l)=256*(bv l / 16+bv l)+(a / 16+16*(bv l % 16)+a) by omega,show 15+256*eO 15 l=256*eO 15 l+15 by omega,
   fK _ _ _ _ (by omega) (by omega),ih',hk.1]
  omega
theorem qW (l:List Nat) (h:∀ a∈l,a<256):bv l<256^l.length:=by
 induction l with
 | nil=>simp [bv]
 | cons a l ih =>
  have ha:=h a (List.mem_cons_self ..);have ih':=ih fun x hx=>h x (List.mem_cons_of_mem _ hx)
  show a+256*bv l<256^(l.length+1);rw [Nat.pow_succ];omega
theorem EN (l:List Nat) (h:∀ a∈l,a<256):pc (bv l)=(l.map pc).sum:=by
 induction l with
 | nil=>simp [bv,jr]
 | cons a l ih =>
  show pc (a+256*bv l)=pc a+(l.map pc).sum;rw [Nat.add_comm,gY a _ (h a (List.mem_cons_self ..)),ih fun x hx=>h x (List.mem_cons_of_mem _ hx)]
theorem En (n:Nat) (h:n<18446744073709551616):∃ l:List Nat,l.length=8/\(∀ a∈l,a<256)/\n=bv l:=by
 refine ⟨[n % 256,n / 256 % 256,n / 65536 % 256,n / 16777216 % 256,n / 4294967296 % 256,n / 1099511627776 % 256,n / 281474976710656 % 256,n / 72057594037927936],rfl,?_,?_⟩
 ·intro a ha;simp only [List.mem_cons,List.not_mem_nil,or_false] at ha;omega
 ·simp only [bv];omega
theorem CS (l:List Nat) (h:∀ a∈l,a<103) (k:Nat) (hl:l.length=k):bv l<=102*bv (List.replicate k 1):=by
 subst hl;induction l with
 | nil=>simp [bv]
 | cons a l ih =>
  have ha:=h a (List.mem_cons_self ..);have ih':=ih fun x hx=>h x (List.mem_cons_of_mem _ hx)
  show a+256*bv l<=102*(1+256*bv (List.replicate l.length 1));omega
theorem Da (a m b:Nat) (h:a<m):(a+m*b) / m=b:=by rw [Nat.add_mul_div_left _ _ (by omega),Nat.div_eq_of_lt h,Nat.zero_add]
def fp:List Nat->List Nat->List Nat
 | [],r=>r
 | a :: l,[]=>a :: l
 | a :: l,b :: r=>(a+b) :: fp l r
theorem rX:∀ l r,bv (fp l r)=bv l+bv r
 | [],r=>by simp [fp,bv]
 | a :: l,[]=>by simp [fp,bv]
 | a :: l,b :: r=>by
  show (a+b)+256*bv (fp l r)=(a+256*bv l)+(b+256*bv r);rw [rX l r];omega
theorem wM (x y:Nat):∀ l r,(∀ a∈l,a<x+1)->(∀ a∈r,a<y+1)->∀ a∈fp l r,a<x+y+1
 | [],r,_,h2=>fun a ha=>by have:=h2 a ha;omega
 | a :: l,[],h1,_=>fun x hx=>by have:=h1 x hx;omega
 | a :: l,b :: r,h1,h2=>fun z hz=>by
  rcases List.mem_cons.1 hz with e | e
  ·have:=h1 a (by simp);have:=h2 b (by simp);omega
  ·exact wM x y l r (fun q hq=>h1 q (List.mem_cons_of_mem _ hq)) (fun q hq=>h2 q (List.mem_cons_of_mem _ hq)) z e
theorem rS:∀ l r:List Nat,r.length<=l.length->(fp l r).length=l.length
 | [],r,h=>by simpa [fp] using h
 | a :: l,[],_=>rfl
 | a :: l,b :: r,h=>by simp only [fp,List.length_cons];rw [rS l r (by simpa using h)]
theorem pN:∀ (k:Nat) (l:List Nat),bv l=bv (l.take k)+256^k*bv (l.drop k)
 | 0,l=>by simp [bv]
 | k+1,[]=>by simp [bv]
 | k+1,a :: l=>by
  show a+256*bv l=(a+256*bv (l.take k))+256^(k+1)*bv (l.drop k);have:=pN k l;rw [this,Nat.pow_succ,Nat.mul_add,Nat.mul_comm (256^k) 256,Nat.mul_assoc];omega
theorem mt (f:Int->Int) (k m:Nat) (M:Int) (hM:M=(m:Int)) (hm:m=256^k) (hf:∀ x,f x=IntKind.u64.wrap (x+x / M)) (l:List Nat) (hl:l.length=8) (x:Nat) (hx:∀ a∈l,a<x+1) (h9:x+x<256) :
  f (bv l:Nat)=(bv (fp l (l.drop k)):Nat)/\(fp l (l.drop k)).length=8/\∀ a∈fp l (l.drop k),a<x+x+1:=by
 have hb:=wM x x l (l.drop k) hx fun a ha=>hx a (List.mem_of_mem_drop ha)
 have hlen:(fp l (l.drop k)).length=8:=by rw [rS _ _ (by simp),hl]
 refine ⟨?_,hlen,hb⟩
 have hlt:bv (fp l (l.drop k))<18446744073709551616:=by
  have:=qW (fp l (l.drop k)) fun a ha=>by have:=hb a ha;omega
  rw [hlen] at this;exact this
 have ha:bv (l.take k)<m:=by
  have:=qW (l.take k) fun a ha=>by have:=hx a (List.mem_of_mem_take ha);omega
  rw [hm];exact Nat.lt_of_lt_of_le this (Nat.pow_le_pow_right (by omega) (by simp;omega))
 have hs:=pN k l;rw [<-hm] at hs;have hd:bv l / m=bv (l.drop k):=by rw [hs];exact Da _ _ _ ha
 rw [hf,hM,show ((bv l:Nat):Int) / (m:Int)=((bv l / m:Nat):Int) by simp,hd,<-Int.natCast_add,<-rX];exact wrap_u64 _ hlt
def pZ (l:List Nat):List Nat:=fp (fp (fp l (l.drop 1)) ((fp l (l.drop 1)).drop 2)) ((fp (fp l (l.drop 1)) ((fp l (l.drop 1)).drop 2)).drop 4)
theorem uR (l:List Nat) (hl:l.length=8):∃ r,pZ l=l.sum :: r:=by
 match l,hl with
 | [y0,y1,y2,y3,y4,y5,y6,y7],_ =>
  refine ⟨(pZ [y0,y1,y2,y3,y4,y5,y6,y7]).tail,?_⟩;simp only [pZ,fp,List.drop,List.tail,List.sum_cons,List.sum_nil];exact List.cons_eq_cons.2 ⟨by omega,rfl⟩
theorem Em:∀ (r:List Nat),(∀ a∈r,a<65)->bv r<=64*bv (List.replicate r.length 1):=by
 intro r;induction r with
 | nil=>intro _;simp [bv]
 | cons a r ih =>
  intro h;have h1:=h a (List.mem_cons_self ..);have h2:=ih (fun x hx=>h x (List.mem_cons_of_mem _ hx));show a+256*bv r<=64*(1+256*bv (List.replicate r.length 1));omega
theorem Co (p q:Nat) (hp:p<65) (h:p+256*q<9223372036854775808):bits .and .i64 (wrap64 ((p+256*q:Nat):Int)) 127=(p:Int):=by
 rw [show wrap64 ((p+256*q:Nat):Int)=((p+256*q:Nat):Int) from by unfold wrap64;omega,show (127:Int)=((127:Nat):Int) from rfl,jg _ _ h (by decide)];rw [show (127:Nat)=2^7 - 1 from rfl,Nat.and_two_pow_sub_one_eq_mod];omega
theorem zo (l:List Nat) (hl:l.length=8) (hb:∀ a∈l,a<8+1):s6 (s5 (s4 ((bv l:Nat):Int)))=((bv (pZ l):Nat):Int)/\(pZ l).length=8/\∀ a∈pZ l,a<65:=by
 obtain ⟨e1,l1,b1⟩:=mt s4 1 256 256 rfl (by decide) (fun _=>rfl) l hl 8 hb (by omega);obtain ⟨e2,l2,b2⟩:=mt s5 2 65536 65536 rfl (by decide) (fun _=>rfl) _ l1 16 b1 (by omega);obtain ⟨e3,l3,b3⟩:=mt s6 4 4294967296 4294967296 rfl (by decide) (fun _=>rfl) _ l2 32 b2 (by omega);refine ⟨?_,l3,b3⟩;rw [e1,e2,e3];rfl
theorem Cp (l:List Nat) (hl:l.length=8) (hb:∀ a∈l,a<8+1):bits .and .i64 (wrap64 (s6 (s5 (s4 ((bv l:Nat):Int))))) 127=((l.sum:Nat):Int):=by
 obtain ⟨e,hlen,hB⟩:=zo l hl hb;obtain ⟨r,hr⟩:=uR l hl;have hlt:=Em _ hB;rw [hlen,show bv (List.replicate 8 1)=72340172838076673 from rfl] at hlt;rw [e];rw [hr] at hlt hB⊢;have hp:=hB _ (List.mem_cons_self ..);exact Co _ (bv r) hp (by have:l.sum+256*bv r<=64*72340172838076673:=hlt;omega)
theorem tg (n:Nat) (h:n<18446744073709551616):Ee (n:Int)=(pc n:Nat):=by
 obtain ⟨l,hl,hb,rfl⟩:=En n h;rw [EN l hb]
 have r1:eO 0x55 l=6148914691236517205:=by
  unfold eO;rw [List.map_const',hl];rfl
 have r2:eO 0x33 (l.map t1)=3689348814741910323:=by
  unfold eO;rw [List.map_const',List.length_map,hl];rfl
 have r3:eO 15 ((l.map t1).map t2)=1085102592571150095:=by
  unfold eO;rw [List.map_const',List.length_map,List.length_map,hl];rfl
 have b1:∀ a∈l.map t1,a<171:=by
  intro a ha;obtain ⟨x,hx,rfl⟩:=List.mem_map.1 ha;exact (mB x (hb x hx)).2
 have b2:∀ a∈(l.map t1).map t2,a<103/\a % 16<7:=by
  intro a ha;obtain ⟨x,hx,rfl⟩:=List.mem_map.1 ha;exact (mC x (b1 x hx) 0 (by omega)).2
 have l1:bv (l.map t1)<18446744073709551616:=by
  have:=qW (l.map t1) fun a ha=>by have:=b1 a ha;omega
  rw [List.length_map,hl] at this;exact this
 have l2:bv ((l.map t1).map t2)<18446744073709551616:=by
  have:=qW ((l.map t1).map t2) fun a ha=>by have:=(b2 a ha).1;omega
  rw [List.length_map,List.length_map,hl] at this;exact this
 have e1:s1 ((bv l:Nat):Int)=((bv (l.map t1):Nat):Int):=by
  unfold s1;have:=Eo l hb;rw [r1] at this;rw [show ((bv l:Nat):Int) / 2=((bv l / 2:Nat):Int) by omega,show (6148914691236517205:Int)=((6148914691236517205:Nat):Int) from rfl,dP _ _ (by omega) (by decide),dP _ _ h (by decide),<-Int.natCast_add,this];exact wrap_u64 _ l1
 have e2:s2 ((bv (l.map t1):Nat):Int)=((bv ((l.map t1).map t2):Nat):Int):=by
  unfold s2;have:=Ep (l.map t1) b1;rw [r2] at this;rw [show ((bv (l.map t1):Nat):Int) / 4=((bv (l.map t1) / 4:Nat):Int) by omega,show (3689348814741910323:Int)=((3689348814741910323:Nat):Int) from rfl,dP _ _ (by omega) (by decide),dP _ _ l1 (by decide),<-Int.natCast_add,this];exact wrap_u64 _ l2
 have e3:s3 ((bv ((l.map t1).map t2):Nat):Int)=((bv (((l.map t1).map t2).map t3):Nat):Int):=by
  unfold s3;have:=Eq _ b2;rw [r3] at this;have hlt:=CS ((l.map t1).map t2) (fun a ha=>(b2 a ha).1) 8 (by simp [hl]);rw [show bv (List.replicate 8 1)=72340172838076673 from rfl] at hlt;rw [show ((bv ((l.map t1).map t2):Nat):Int) / 16+((bv ((l.map t1).map t2):Nat):Int)=((bv ((l.map t1).map t2) / 16+bv ((l.map t1).map t2):Nat):Int) by omega,wrap_u64 _ (by omega),show (1085102592571150095:Int)=((1085102592571150095:Nat):Int) from rfl,dP _ _ (by omega) (by decide),this]
 unfold Ee
 rw [e1,e2,e3,Cp _ (by simp [hl]) (fun a ha=>by
  obtain ⟨y,hy,rfl⟩:=List.mem_map.1 ha;obtain ⟨z,hz,rfl⟩:=List.mem_map.1 hy;obtain ⟨x,hx,rfl⟩:=List.mem_map.1 hz;exact nu x (hb x hx))]
 rw [List.map_map,List.map_map];congr 2;exact List.map_congr_left fun x hx=>rv x (hb x hx)
def ck (c:Nat):Nat:=c % 16777216
def ce (c:Nat):Nat:=c / 16777216 % 18446744073709551616
def bT (c:Nat):Nat:=c / 309485009821345068724781056
theorem dj (c i:Nat):(ck c).testBit i=(decide (i<24)&&c.testBit i):=by
 unfold ck;rw [show (16777216:Nat)=2^24 from rfl,Nat.testBit_mod_two_pow]
theorem bQ (c i:Nat):(ce c).testBit i=(decide (i<64)&&c.testBit (24+i)):=by
 unfold ce;rw [show (18446744073709551616:Nat)=2^64 from rfl,show (16777216:Nat)=2^24 from rfl,Nat.testBit_mod_two_pow,Nat.testBit_div_two_pow,Nat.add_comm]
theorem bP (c i:Nat):(bT c).testBit i=c.testBit (88+i):=by
 unfold bT;rw [show (309485009821345068724781056:Nat)=2^88 from rfl,Nat.testBit_div_two_pow,Nat.add_comm]
theorem lY (c:Nat):ck c<16777216:=Nat.mod_lt _ (by decide)
theorem gT (c:Nat):ce c<18446744073709551616:=Nat.mod_lt _ (by decide)
theorem iO {c:Nat} (h:aF 152 c):bT c<18446744073709551616:=by
 have:=gB h;unfold bT;refine Nat.div_lt_of_lt_mul ?_;exact Nat.lt_of_lt_of_le this (by decide)
abbrev cR (c:Nat):Value:=.agg #[.int .i64 (ck c),.int .u64 (ce c),.int .u64 (bT c)]
theorem bF (c m i:Nat):(c ||| 2^m).testBit i=(c.testBit i||decide (m=i)):=by
 rw [Nat.testBit_or,Nat.testBit_two_pow]
theorem Db {c a:Nat} (h:a<24):ck (c ||| 2^a)=ck c ||| 2^a/\ce (c ||| 2^a)=ce c/\bT (c ||| 2^a)=bT c:=by
 refine ⟨?_,?_,?_⟩ <;> apply Nat.eq_of_testBit_eq <;> intro i
 ·rw [dj,bF,bF,dj];by_cases h1:i<24
  ·simp [h1]
  ·simp [h1];omega
 ·rw [bQ,bF,bQ];by_cases h1:i<64
  ·simp [h1];omega
  ·simp [h1]
 ·rw [bP,bF,bP];simp;omega
theorem Dm {c j:Nat} (h:j<64):ck (c ||| 2^(24+j))=ck c/\ce (c ||| 2^(24+j))=ce c ||| 2^j/\bT (c ||| 2^(24+j))=bT c:=by
 refine ⟨?_,?_,?_⟩ <;> apply Nat.eq_of_testBit_eq <;> intro i
 ·rw [dj,bF,dj];by_cases h1:i<24
  ·simp [h1];omega
  ·simp [h1]
 ·rw [bQ,bF,bF,bQ];by_cases h1:i<64
  ·simp [h1]
  ·simp [h1];omega
 ·rw [bP,bF,bP];simp;omega
theorem Df {c j:Nat}:ck (c ||| 2^(24+(64+j)))=ck c/\ce (c ||| 2^(24+(64+j)))=ce c/\bT (c ||| 2^(24+(64+j)))=bT c ||| 2^j:=by
 refine ⟨?_,?_,?_⟩ <;> apply Nat.eq_of_testBit_eq <;> intro i
 ·rw [dj,bF,dj];by_cases h1:i<24
  ·simp [h1];omega
  ·simp [h1]
 ·rw [bQ,bF,bQ];by_cases h1:i<64
  ·simp [h1];omega
  ·simp [h1]
 ·rw [bP,bF,bF,bP];congr 1;rw [decide_eq_decide];omega
theorem cW (c m i:Nat):(aM c (2^m)).testBit i=(c.testBit i&&!decide (m=i)):=by
 rw [bi,Nat.testBit_two_pow]
theorem vi {c j:Nat} (h:j<64):ck (aM c (2^(24+j)))=ck c/\ce (aM c (2^(24+j)))=aM (ce c) (2^j)/\bT (aM c (2^(24+j)))=bT c:=by
 refine ⟨?_,?_,?_⟩ <;> apply Nat.eq_of_testBit_eq <;> intro i
 ·rw [dj,cW,dj];by_cases h1:i<24
  ·simp [h1];omega
  ·simp [h1]
 ·rw [bQ,cW,cW,bQ];by_cases h1:i<64
  ·simp [h1]
  ·simp [h1]
 ·rw [bP,cW,bP];simp;omega
theorem uY {c j:Nat}:ck (aM c (2^(24+(64+j))))=ck c/\ce (aM c (2^(24+(64+j))))=ce c/\bT (aM c (2^(24+(64+j))))=aM (bT c) (2^j):=by
 refine ⟨?_,?_,?_⟩ <;> apply Nat.eq_of_testBit_eq <;> intro i
 ·rw [dj,cW,dj];by_cases h1:i<24
  ·simp [h1];omega
  ·simp [h1]
 ·rw [bQ,cW,bQ];by_cases h1:i<64
  ·simp [h1];omega
  ·simp [h1]
 ·rw [bP,cW,cW,bP];congr 2;rw [decide_eq_decide];omega
theorem BS {c:Nat} (hc:aF 152 c) (i:Nat) (hi:i<128) (w:World):Calls Tryz.prog 127 #[cR c,.int .i64 i] w fun e w'=>e=.returned (.bool (c.testBit (24+i)))/\af w w':=by
 by_cases h:i<64
 ·have:=Ey (ck c) (ce c) (bT c) i (gT c) h w;rw [bQ,decide_eq_true h,Bool.true_and] at this;exact this
 ·obtain ⟨j,rfl⟩:∃ j,i=64+j:=⟨i - 64,by omega⟩;have:=Ex (ck c) (ce c) (bT c) j (iO hc) (by omega) w;rw [bP,show 88+j=24+(64+j) by omega] at this;exact this
theorem ju {c:Nat} (hc:aF 152 c) (V:Nat) (v:Value) (T:Int) (hs:∃ a n c,v=.slice a n c) (hV:V<=24) (a:Int) (ha:0<=a/\a<(V:Int)+128) (w:World) :
  Calls Tryz.prog 125 #[cR c,.agg #[.int .i64 V,v,.int .i64 T],.int .i64 a] w fun e w'=>e=.returned (cR (bp V c a))/\af w w':=by
 obtain ⟨A,rfl⟩:=Int.eq_ofNat_of_zero_le ha.1;unfold bp cond;by_cases h:A<V
 ·rw [if_pos (by omega),Int.toNat_natCast];have:=DO (ck c) (ce c) (bT c) A V v T hs (lY c) hV h w;obtain ⟨e1,e2,e3⟩:=Db (c:=c) (a:=A) (by omega);unfold cR;rw [e1,e2,e3];exact this
 ·rw [if_neg (by omega)];obtain ⟨i,rfl⟩:∃ i,A=V+i:=⟨A - V,by omega⟩;rw [show (((V+i:Nat):Int) - (V:Int)).toNat=i by omega];unfold cR;by_cases h6:i<64
  ·obtain ⟨e1,e2,e3⟩:=Dm (c:=c) (j:=i) h6;rw [e1,e2,e3];exact DQ (ck c) (ce c) (bT c) i V v T hs (gT c) hV h6 w _ rfl
  ·obtain ⟨j,rfl⟩:∃ j,i=64+j:=⟨i - 64,by omega⟩;obtain ⟨e1,e2,e3⟩:=Df (c:=c) (j:=j);rw [e1,e2,e3];exact DP (ck c) (ce c) (bT c) j V v T hs (iO hc) hV (by omega) w _ rfl
theorem rH {c:Nat} (hc:aF 152 c) (i:Nat) (hi:i<128) (w:World):Calls Tryz.prog 184 #[cR c,.int .i64 i] w fun e w'=>e=.returned (cR (aM c (2^(24+i))))/\af w w':=by
 unfold cR;by_cases h6:i<64
 ·obtain ⟨e1,e2,e3⟩:=vi (c:=c) (j:=i) h6;rw [e1,e2,e3];exact wE (ck c) (ce c) (bT c) i (gT c) h6 w _ rfl
 ·obtain ⟨j,rfl⟩:∃ j,i=64+j:=⟨i - 64,by omega⟩;obtain ⟨e1,e2,e3⟩:=uY (c:=c) (j:=j);rw [e1,e2,e3];exact wD (ck c) (ce c) (bT c) j (iO hc) (by omega) w _ rfl
theorem BX (c:Nat):c=2^88*bT c+(2^24*ce c+ck c):=by
 unfold bT ce ck;have h1:=Nat.div_add_mod c 16777216;have h2:=Nat.div_add_mod (c / 16777216) 18446744073709551616;rw [Nat.div_div_eq_div_mul] at h2;rw [show (309485009821345068724781056:Nat)=16777216*18446744073709551616 from rfl,show (2:Nat)^88=16777216*18446744073709551616 from rfl,show (2:Nat)^24=16777216 from rfl];generalize c / (16777216*18446744073709551616)=h at *;generalize c / 16777216 % 18446744073709551616=l at *;omega
theorem ti:∀ k n,n<2^k->∀ h,pc (2^k*h+n)=pc n+pc h:=by
 intro k;induction k with
 | zero =>
      intro n hn h;have:n=0:=by simpa using hn
      subst this;rw [jr];simp
 | succ k ih =>
  intro n hn h;rw [dB,dB n];have e1:(2^(k+1)*h+n) % 2=n % 2:=by rw [Nat.pow_succ,Nat.mul_comm (2^k) 2,Nat.mul_assoc];omega
  have e2:(2^(k+1)*h+n) / 2=2^k*h+n / 2:=by rw [Nat.pow_succ,Nat.mul_comm (2^k) 2,Nat.mul_assoc];omega
  rw [e1,e2,ih (n / 2) (by rw [Nat.pow_succ] at hn;omega) h];omega
theorem EO (c:Nat):pc c=pc (ck c)+pc (ce c)+pc (bT c):=by
 have h:=BX c;have h1:=lY c;have h2:=gT c
 have e1:2^24*ce c+ck c<2^88:=by
  rw [show (2:Nat)^24=16777216 from rfl,show (2:Nat)^88=309485009821345068724781056 from rfl];omega
 conv=>lhs;rw [h]
 rw [ti 88 _ e1,ti 24 _ (by rw [show (2:Nat)^24=16777216 from rfl];exact h1)]
theorem DH (a b:Nat):subN a b=(subN (ck a) (ck b)&&(subN (ce a) (ce b)&&subN (bT a) (bT b))):=by
 rw [Bool.eq_iff_iff,Bool.and_eq_true,Bool.and_eq_true,aw,aw,aw,aw];constructor
 ·intro h;refine ⟨fun i hi=>?_,fun i hi=>?_,fun i hi=>?_⟩
  ·rw [dj] at hi⊢;simp at hi⊢;exact ⟨hi.1,h i hi.2⟩
  ·rw [bQ] at hi⊢;simp at hi⊢;exact ⟨hi.1,h _ hi.2⟩
  ·rw [bP] at hi⊢;exact h _ hi
 ·rintro ⟨h1,h2,h3⟩ i hi;by_cases c1:i<24
  ·have:=h1 i (by rw [dj];simp [c1,hi]);rw [dj] at this;simp at this;exact this.2
  ·by_cases c2:i<88
   ·have:=h2 (i - 24) (by rw [bQ,show 24+(i - 24)=i by omega];simp [hi];omega);rw [bQ,show 24+(i - 24)=i by omega] at this;simp at this;exact this.2
   ·have:=h3 (i - 88) (by rw [bP,show 88+(i - 88)=i by omega];exact hi);rw [bP,show 88+(i - 88)=i by omega] at this;exact this
theorem th (n:Nat):∀ c,c<2^n->pc c<=n:=by
 induction n with
 | zero =>
      intro c h;have:c=0:=by simpa using h
      subst this;rw [jr];omega
 | succ n ih =>
  intro c h;rw [dB];have:=ih (c / 2) (by rw [Nat.pow_succ] at h;omega);omega
theorem DG (a b:Nat) (ha:a<9223372036854775808) (hb:b<9223372036854775808):(bits .andNot .i64 (a:Int) (b:Int) == 0)=subN a b:=by
 rw [jT a b ha hb];unfold subN;rw [Bool.eq_iff_iff];simp
theorem xA (a b:Nat) (ha:a<18446744073709551616) (hb:b<18446744073709551616):(bits .andNot .u64 (a:Int) (b:Int) == 0)=subN a b:=by
 rw [jU a b ha hb];unfold subN;rw [Bool.eq_iff_iff];simp
theorem zf {a b:Nat} (ha:aF 152 a) (hb:aF 152 b) (w:World):Calls Tryz.prog 192 #[cR a,cR b] w fun e w'=>e=.returned (.bool (subN a b))/\∃ C O,w'=(w.alloc C).alloc O:=by
 have b1:=DG (ck a) (ck b) (by have:=lY a;omega) (by have:=lY b;omega);have b2:=xA (ce a) (ce b) (gT a) (gT b);have b3:=xA (bT a) (bT b) (iO ha) (iO hb);rw [DH];generalize subN (ck a) (ck b)=x1 at *;generalize subN (ce a) (ce b)=x2 at *;generalize subN (bT a) (bT b)=x3 at *;unfold cR;generalize ck a=ea at *;generalize ck b=eb at *;generalize ce a=la at *;generalize ce b=lb at *;generalize bT a=za at *;generalize bT b=zb at *;clear ha hb;cases x1 with
 | false =>
  go_enter Tryz.func192,Tryz.ntmps192;go_wp2;go_ret;exact ⟨rfl,_,_,rfl⟩
 | true =>
  cases x2 with
  | false =>
   go_enter Tryz.func192,Tryz.ntmps192;go_wp2;go_ret;exact ⟨rfl,_,_,rfl⟩
  | true =>
   go_enter Tryz.func192,Tryz.ntmps192;go_wp2;go_ret;exact ⟨by cases x3 <;> rfl,_,_,rfl⟩
theorem qC {c:Nat} (hc:aF 152 c) (w:World):Calls Tryz.prog 189 #[cR c] w fun e w'=>e=.returned (.int .i64 (pc c))/\∃ C n,w'=(w.alloc C).drewN n:=by
 have h1:∀ W,Calls Tryz.prog 134 #[.int .i64 (ck c)] W fun e w'=>e=.returned (.int .i64 (pc (ck c)))/\w'=W:=fun W=>(pT (lY c) W).mono fun _ _ h=>⟨h.1,h.2.symm⟩
 have h2:∀ W,Calls Tryz.prog 241 #[.int .u64 (ce c)] W fun e w'=>e=.returned (.int .i64 (pc (ce c)))/\w'=W:=fun W=>(kj _ W).mono fun _ _ h=>⟨by rw [h.1,tg _ (gT c)],h.2.symm⟩
 have h3:∀ W,Calls Tryz.prog 241 #[.int .u64 (bT c)] W fun e w'=>e=.returned (.int .i64 (pc (bT c)))/\w'=W:=fun W=>(kj _ W).mono fun _ _ h=>⟨by rw [h.1,tg _ (iO hc)],h.2.symm⟩
 have e1:=th 24 (ck c) (lY c);have e2:=th 64 (ce c) (gT c);have e3:=th 64 (bT c) (iO hc);rw [EO c];unfold cR;generalize pc (ck c)=p1 at *;generalize pc (ce c)=p2 at *;generalize pc (bT c)=p3 at *;generalize ck c=ea at *;generalize ce c=la at *;generalize bT c=za at *;have H1:=ae h1;have H2:=ae h2;have H3:=ae h3;have w1:IntKind.i64.wrap ((p1:Int)+(p2:Int))=(p1:Int)+(p2:Int):=by rw [IntKind.wrap_i64];omega
 have w2:IntKind.i64.wrap ((p1:Int)+(p2:Int)+(p3:Int))=(p1:Int)+(p2:Int)+(p3:Int):=by rw [IntKind.wrap_i64];omega
 clear h1 h2 h3 hc;go_enter Tryz.func189,Tryz.ntmps189;go_wp2;go_quiet ((first | (go_at_call 134;exact Calls.quiet_of_same (H1.out _)) | (go_at_call 241;(with_reducible exact Calls.quiet_of_same (H2.out _))) | (go_at_call 241;(with_reducible exact Calls.quiet_of_same (H3.out _)))));go_wp2;go_ret;exact ⟨by simp,_,_,rfl⟩
section
open Go.Sort
section
variable {α:Type}
def uk (a b n:Nat) (f:Nat->α) (x:Nat):α:=if a<=x/\x<a+n then f (x+(b - a)) else if b<=x/\x<b+n then f (x - (b - a)) else f x
def dX (a m b:Nat) (f:Nat->α) (x:Nat):α:=if a<=x/\x<a+(b - m) then f (x+(m - a)) else if a+(b - m)<=x/\x<b then f (x - (b - m)) else f x
theorem Cn (a b:Nat) (f:Nat->α) (x:Nat):uk a b 0 f x=f x:=by
 unfold uk;rw [if_neg (by omega),if_neg (by omega)]
theorem Cm (a b n:Nat) (f:Nat->α) (h:a+n<b) (x:Nat) :
  (if x=b+n then uk a b n f (a+n) else if x=a+n then uk a b n f (b+n) else uk a b n f x)=uk a b (n+1) f x:=by
 unfold uk;by_cases h1:x=b+n
 ·subst h1;rw [if_pos rfl,if_neg (by omega),if_neg (by omega),if_neg (by omega),if_pos (by omega)];congr 1;omega
 ·rw [if_neg h1];by_cases h2:x=a+n
  ·subst h2;rw [if_pos rfl,if_neg (by omega),if_neg (by omega),if_pos (by omega)];congr 1;omega
  ·rw [if_neg h2];by_cases h3:a<=x/\x<a+n
   ·rw [if_pos h3,if_pos (by omega)]
   ·rw [if_neg h3];by_cases h4:b<=x/\x<b+n
    ·rw [if_pos h4,if_neg (by omega),if_pos (by omega)]
    ·rw [if_neg h4,if_neg (by omega),if_neg (by omega)]
theorem ER (m i j:Nat) (hi:i<=m) (hj:j<i) (f:Nat->α) (x:Nat):dX (m - (i - j)) m (m+j) (uk (m - i) m j f) x=dX (m - i) m (m+j) f x:=by
 unfold dX uk;repeat' split
 all_goals first | (exfalso;omega) | rfl | (congr 1 <;> omega)
theorem ES (m i j:Nat) (hi:i<=m) (hj:i<j) (f:Nat->α) (x:Nat):dX (m - i) m (m+(j - i)) (uk (m - i) (m+j - i) i f) x=dX (m - i) m (m+j) f x:=by
 unfold dX uk;repeat' split
 all_goals first | (exfalso;omega) | rfl | (congr 1 <;> omega)
theorem EQ (m i:Nat) (hi:i<=m) (f:Nat->α) (x:Nat):uk (m - i) m i f x=dX (m - i) m (m+i) f x:=by
 unfold dX uk;repeat' split
 all_goals first | (exfalso;omega) | rfl | (congr 1 <;> omega)
theorem ET (a k:Nat) (h:a<=k) (f:Nat->α) (x:Nat) :
  (if x=k+1 then dX a (a+1) (k+1) f k else if x=k then dX a (a+1) (k+1) f (k+1) else dX a (a+1) (k+1) f x)=dX a (a+1) (k+2) f x:=by
 unfold dX;repeat' split
 all_goals first | (exfalso;omega) | rfl | (congr 1 <;> omega)
theorem BU (k m:Nat) (h:k+1<=m) (f:Nat->α) (x:Nat) :
  (if x=k then dX (k+1) m (m+1) f (k+1) else if x=k+1 then dX (k+1) m (m+1) f k else dX (k+1) m (m+1) f x)=dX k m (m+1) f x:=by
 unfold dX;repeat' split
 all_goals first | (exfalso;omega) | rfl | (congr 1 <;> omega)
theorem BV (a b:Nat) (f:Nat->α) (x:Nat):dX a a b f x=f x:=by
 unfold dX;repeat' split
 all_goals first | (exfalso;omega) | rfl | (congr 1 <;> omega)
theorem qz (a b:Nat) (f:Nat->α) (x:Nat):dX a b b f x=f x:=by
 unfold dX;repeat' split
 all_goals first | (exfalso;omega) | rfl | (congr 1 <;> omega)
end
section
variable {α:Type} [Inhabited α] {lt:α->α->Bool}
def pr (d:Array α) (x:Nat):α:=d[x]!
def lE (a m b:Nat) (d d':Array α):Prop:=PermIn a b d d'/\∀ x,d'[x]! = dX a m b (pr d) x
def zH (a b n:Nat) (d d':Array α):Prop:=PermIn a (b+n) d d'/\∀ x,d'[x]! = uk a b n (pr d) x
theorem zH.start (a b:Nat) (d:Array α):zH a b 0 d d:=⟨permIn_refl _ _ _,fun x=>(Cn a b (pr d) x).symm⟩
theorem zH.step {a b n:Nat} {d d':Array α} (h:zH a b n d d') (h1:a+n<b) (h2:b+n<d.size):zH a b (n+1) d (swp d' (a+n) (b+n)):=by
 have hs:d'.size=d.size:=h.1.1;refine ⟨permIn_trans _ _ _ _ _ (permIn_mono _ _ _ _ _ _ (Nat.le_refl _) (by omega) (by omega) h.1) (swp_permIn _ _ _ _ _ (by omega) (by omega) (by omega) (by omega) (by omega)),fun x=>?_⟩;rw [Go.Sort.swp_get d' (by omega) (by omega),<-Cm a b n (pr d) h1 x,h.2,h.2,h.2]
def ij (a m b:Nat) (d:Array α) (i j:Nat) (dk:Array α):Prop:=PermIn a b d dk/\(∀ x,dX (m - i) m (m+j) (pr dk) x=dX a m b (pr d) x)/\a<=m - i/\i<=m/\m+j<=b
theorem ij.start {a m b:Nat} (d:Array α) (h1:a<=m) (h2:m<=b):ij a m b d (m - a) (b - m) d :=
 ⟨permIn_refl _ _ _,fun x=>by rw [show m - (m - a)=a by omega,show m+(b - m)=b by omega],by omega,by omega,by omega⟩
theorem ij.right {a m b i j:Nat} {d dk dn:Array α} (h:ij a m b d i j dk) (hb:b<=d.size) (hj:j<i) (hs:zH (m - i) m j dk dn):ij a m b d (i - j) j dn:=by
 obtain ⟨h1,h2,h3,h4,h5⟩:=h;refine ⟨permIn_trans _ _ _ _ _ h1 (permIn_mono _ _ _ _ _ _ h3 h5 (by rw [h1.1];exact hb) hs.1),fun x=>?_,by omega,by omega,h5⟩;rw [<-h2,<-ER m i j h4 hj (pr dk) x];have e:pr dn=uk (m - i) m j (pr dk):=funext hs.2;rw [e]
theorem ij.left {a m b i j:Nat} {d dk dn:Array α} (h:ij a m b d i j dk) (hb:b<=d.size) (hj:i<j) (hs:zH (m - i) (m+j - i) i dk dn):ij a m b d i (j - i) dn:=by
 obtain ⟨h1,h2,h3,h4,h5⟩:=h;refine ⟨permIn_trans _ _ _ _ _ h1 (permIn_mono _ _ _ _ _ _ h3 (by omega) (by rw [h1.1];exact hb) hs.1),fun x=>?_,h3,h4,by omega⟩;rw [<-h2,<-ES m i j h4 hj (pr dk) x];have e:pr dn=uk (m - i) (m+j - i) i (pr dk):=funext hs.2;rw [e]
theorem ij.done {a m b i:Nat} {d dk dn:Array α} (h:ij a m b d i i dk) (hb:b<=d.size) (hs:zH (m - i) m i dk dn):lE a m b d dn:=by
 obtain ⟨h1,h2,h3,h4,h5⟩:=h;refine ⟨permIn_trans _ _ _ _ _ h1 (permIn_mono _ _ _ _ _ _ h3 h5 (by rw [h1.1];exact hb) hs.1),fun x=>?_⟩;rw [<-h2,<-EQ m i h4 (pr dk) x];exact hs.2 x
theorem lE.one (a:Nat) (d:Array α):lE a (a+1) (a+1) d d:=⟨permIn_refl _ _ _,fun x=>(qz a (a+1) (pr d) x).symm⟩
theorem lE.up {a k:Nat} {d d':Array α} (h:lE a (a+1) (k+1) d d') (hk:a<=k) (hb:k+1<d.size):lE a (a+1) (k+2) d (swp d' k (k+1)):=by
 have hs:d'.size=d.size:=h.1.1;refine ⟨permIn_trans _ _ _ _ _ (permIn_mono _ _ _ _ _ _ (Nat.le_refl _) (by omega) (by omega) h.1) (swp_permIn _ _ _ _ _ (by omega) (by omega) (by omega) (by omega) (by omega)),fun x=>?_⟩;rw [Go.Sort.swp_get d' (by omega) (by omega),<-ET a k hk (pr d) x,h.2,h.2,h.2]
theorem lE.none (m b:Nat) (d:Array α):lE m m b d d:=⟨permIn_refl _ _ _,fun x=>(BV m b (pr d) x).symm⟩
theorem lE.down {k m:Nat} {d d':Array α} (h:lE (k+1) m (m+1) d d') (hk:k+1<=m) (hb:m<d.size):lE k m (m+1) d (swp d' (k+1) k):=by
 have hs:d'.size=d.size:=h.1.1;refine ⟨permIn_trans _ _ _ _ _ (permIn_mono _ _ _ _ _ _ (by omega) (Nat.le_refl _) (by omega) h.1) (swp_permIn _ _ _ _ _ (by omega) (by omega) (by omega) (by omega) (by omega)),fun x=>?_⟩;rw [Go.Sort.swp_get d' (by omega) (by omega),<-BU k m hk (pr d) x,h.2,h.2,h.2]
def my (lt:α->α->Bool) (a b:Nat) (d d':Array α):Prop:=PermIn a b d d'/\SortedIn lt a b d'
omit [Inhabited α] in
theorem dG (hS:SWO lt) {x y z:α} (h1:lt y x=false) (h2:lt z y=false):lt z x=false:=hS.ntrans z y x h2 h1
theorem bq (hS:SWO lt) {a b:Nat} {d:Array α} (h:SortedIn lt a b d) {i j:Nat} (hi:a<=i) (hij:i<=j) (hj:j<b):lt d[j]! d[i]! = false:=by
 by_cases e:i=j
 ·subst e;exact hS.irrefl _
 ·exact h i j hi (by omega) hj
theorem Bd (hS:SWO lt) {a i b:Nat} {d d':Array α} (hR:lE a (a+1) i d d') (hi:a+1<=i) (hib:i<=b) (hbs:b<=d.size) (hs:SortedIn lt (a+1) b d) (h1:∀ x,a+1<=x->x<i->lt d[x]! d[a]! = true) (h2:∀ x,i<=x->x<b->lt d[x]! d[a]! = false):my lt a b d d':=by
 refine ⟨permIn_mono _ _ _ _ _ _ (Nat.le_refl _) hib hbs hR.1,fun p q hp hpq hq=>?_⟩;rw [hR.2,hR.2];unfold dX pr;by_cases c1:q<i - 1
 ·rw [if_pos (by omega),if_pos (by omega)];exact bq hS hs (by omega) (by omega) (by omega)
 ·by_cases c2:q=i - 1
  ·rw [if_neg (by omega),if_pos (by omega),if_pos (by omega)];have e:q - (i - (a+1))=a:=by omega
   rw [e];exact hS.asymm (h1 _ (by omega) (by omega))
  ·by_cases c3:p<i - 1
   ·rw [if_neg (by omega),if_neg (by omega),if_pos (by omega)];exact bq hS hs (by omega) (by omega) (by omega)
   ·by_cases c4:p=i - 1
    ·rw [if_neg (by omega),if_neg (by omega),if_neg (by omega),if_pos (by omega)];rw [show p - (i - (a+1))=a by omega];exact h2 q (by omega) hq
    ·rw [if_neg (by omega),if_neg (by omega),if_neg (by omega),if_neg (by omega)];exact bq hS hs (by omega) (by omega) (by omega)
theorem yA (hS:SWO lt) {a i m:Nat} {d d':Array α} (hR:lE i m (m+1) d d') (hi:a<=i) (him:i<=m) (hbs:m+1<=d.size) (hs:SortedIn lt a m d) (h1:∀ x,a<=x->x<i->lt d[m]! d[x]! = false) (h2:∀ x,i<=x->x<m->lt d[m]! d[x]! = true):my lt a (m+1) d d':=by
 refine ⟨permIn_mono _ _ _ _ _ _ hi (Nat.le_refl _) hbs hR.1,fun p q hp hpq hq=>?_⟩;rw [hR.2,hR.2];unfold dX pr;by_cases c1:q<i
 ·rw [if_neg (by omega),if_neg (by omega),if_neg (by omega),if_neg (by omega)];exact bq hS hs (by omega) (by omega) (by omega)
 ·by_cases c2:q=i
  ·rw [if_pos (by omega),if_neg (by omega),if_neg (by omega)];rw [show q+(m - i)=m by omega];exact h1 p hp (by omega)
  ·by_cases c3:p<i
   ·rw [if_neg (by omega),if_pos (by omega),if_neg (by omega),if_neg (by omega)];exact bq hS hs (by omega) (by omega) (by omega)
   ·by_cases c4:p=i
    ·rw [if_neg (by omega),if_pos (by omega),if_pos (by omega)];rw [show p+(m - i)=m by omega];exact hS.asymm (h2 _ (by omega) (by omega))
    ·rw [if_neg (by omega),if_pos (by omega),if_neg (by omega),if_pos (by omega)];exact bq hS hs (by omega) (by omega) (by omega)
structure zI (lt:α->α->Bool) (a m b mid s:Nat) (d:Array α):Prop where
 h1:a<=s
 h2:s<=m
 h3:s<=mid
 h4:m<=mid+m - s
 h5:mid+m - s<=b
 low:(mid<m/\s=mid+m - b)\/(m<=mid/\s=a)\/(a<s/\mid+m - s<b/\lt d[mid+m - s]! d[s - 1]! = false)
 high:(mid<m/\s=mid)\/(m<=mid/\s=m)\/(s<m/\m<mid+m - s/\lt d[mid+m - s - 1]! d[s]! = true)
theorem yz (hS:SWO lt) {a m b mid s:Nat} {d d1 d2 d3:Array α} (ham:a<m) (hmb:m<b) (hmid:mid=(a+b) / 2) (hb:b<=d.size) (hl:SortedIn lt a m d) (hr:SortedIn lt m b d) (hc:zI lt a m b mid s d)
  (hR:lE s m (mid+m - s) d d1) (h2:my lt a mid d1 d2) (h3:my lt mid b d2 d3):my lt a b d d3:=by
 obtain ⟨c1,c2,c3,c4,c5,cl,ch⟩:=hc;have hs1:d1.size=d.size:=hR.1.1;have hs2:d2.size=d.size:=h2.1.1.trans hs1;have p1:PermIn a b d d1:=permIn_mono _ _ _ _ _ _ c1 c5 hb hR.1;have p2:PermIn a b d1 d2:=permIn_mono _ _ _ _ _ _ (Nat.le_refl _) (by omega) (by omega) h2.1;have p3:PermIn a b d2 d3:=permIn_mono _ _ _ _ _ _ (by omega) (Nat.le_refl _) (by omega) h3.1;refine ⟨permIn_trans _ _ _ _ _ (permIn_trans _ _ _ _ _ p1 p2) p3,fun p q hp hpq hq=>?_⟩
 have cross1:∀ i j,a<=i->i<mid->mid<=j->j<b->lt d1[j]! d1[i]! = false:=by
  intro i j hi1 hi2 hj1 hj2;rw [hR.2,hR.2];unfold dX pr;have ll:∀ i j,a<=i->i<s->s<=j->j<m->lt d[j]! d[i]! = false:=fun i j h1 h2 h3 h4=>bq hS hl h1 (by omega) h4
  have rr:∀ i j,m<=i->i<mid+m - s->mid+m - s<=j->j<b->lt d[j]! d[i]! = false:=fun i j h1 h2 h3 h4=>bq hS hr h1 (by omega) h4
  have lr:∀ i j,a<=i->i<s->mid+m - s<=j->j<b->lt d[j]! d[i]! = false:=by
   intro i j h1 h2 h3 h4;rcases cl with cl | cl | cl
   ·omega
   ·omega
   ·exact dG hS (dG hS (bq hS hl h1 (show i<=s - 1 by omega) (by omega)) cl.2.2) (bq hS hr (by omega) h3 h4)
  have rl:∀ i j,m<=i->i<mid+m - s->s<=j->j<m->lt d[j]! d[i]! = false:=by
   intro i j h1 h2 h3 h4;rcases ch with ch | ch | ch
   ·omega
   ·omega
   ·exact dG hS (dG hS (bq hS hr h1 (show i<=mid+m - s - 1 by omega) (by omega)) (hS.asymm ch.2.2)) (bq hS hl (by omega) h3 h4)
  by_cases k1:i<s
  ·have ei:(if s<=i/\i<s+(mid+m - s - m) then d[i+(m - s)]! else if s+(mid+m - s - m)<=i/\i<mid+m - s then d[i - (mid+m - s - m)]! else d[i]!)=d[i]!:=by rw [if_neg (by omega),if_neg (by omega)]
   rw [ei];by_cases k2:j<mid+m - s
   ·rw [if_neg (by omega),if_pos (by omega)];exact ll _ _ hi1 k1 (by omega) (by omega)
   ·rw [if_neg (by omega),if_neg (by omega)];exact lr _ _ hi1 k1 (by omega) hj2
  ·have ei:(if s<=i/\i<s+(mid+m - s - m) then d[i+(m - s)]! else if s+(mid+m - s - m)<=i/\i<mid+m - s then d[i - (mid+m - s - m)]! else d[i]!)=d[i+(m - s)]!:=by rw [if_pos (by omega)]
   rw [ei];by_cases k2:j<mid+m - s
   ·rw [if_neg (by omega),if_pos (by omega)];exact rl _ _ (by omega) (by omega) (by omega) (by omega)
   ·rw [if_neg (by omega),if_neg (by omega)];exact rr _ _ (by omega) (by omega) (by omega) hj2
 have cross2:∀ i j,a<=i->i<mid->mid<=j->j<b->lt d2[j]! d2[i]! = false:=by
  intro i j hi1 hi2 hj1 hj2;rw [h2.1.2.1 j (by omega)];exact permIn_all d1 d2 a mid (fun x=>lt d1[j]! x=false) (by omega) h2.1 (fun i h1 h2=>cross1 i j h1 h2 hj1 hj2) i hi1 hi2
 have cross3:∀ i j,a<=i->i<mid->mid<=j->j<b->lt d3[j]! d3[i]! = false:=by
  intro i j hi1 hi2 hj1 hj2;rw [h3.1.2.1 i (by omega)];exact permIn_all d2 d3 mid b (fun x=>lt x d2[i]! = false) (by omega) h3.1 (fun j h1 h2=>cross2 i j hi1 hi2 h1 h2) j hj1 hj2
 by_cases k1:q<mid
 ·have s3:∀ x,x<mid->d3[x]! = d2[x]!:=fun x hx=>h3.1.2.1 x (by omega)
  rw [s3 q k1,s3 p (by omega)];exact h2.2 p q hp hpq k1
 ·by_cases k2:p<mid
  ·exact cross3 p q hp k2 (by omega) hq
  ·exact h3.2 p q (by omega) hpq hq
end
end
end Go.Proofs.YtofibjflkebkpaaGreatDoor
