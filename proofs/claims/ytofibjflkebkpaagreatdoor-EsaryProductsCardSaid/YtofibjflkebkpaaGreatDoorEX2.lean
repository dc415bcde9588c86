import Derived.WalkKit
import Derived.WalkSpells
import Derived.WalkLawsBesides
import Derived.Deep.QuietTactic
import Derived.BigQuiet
import Derived.Lib.Hide
import Derived.Shelf.Abstract
import Derived.Deep.RegionWith
import Derived.Laws.AppendOwnNone
import Derived.Lib.AppendZerosOnto
import Derived.Lib.SliceRun
import Derived.Lib.SlicesCompact
import Derived.Shelf.SlSortCmp.NoneTotal
import Derived.Maps.OwnOps
import Derived.Maps.OwnSet
import Derived.Maps.Views
import Derived.Deep.MidRow
import Derived.Test.YtofibjflkebkpaaGreatDoorEX1
import Derived.Deep.RegionHeld3
import Derived.Deep.AppendLies
import Derived.Deep.RegionLaw
import Derived.IntWalk
import Derived.StillTailTactics
import Derived.RegionTactic
import Derived.BigRegion
import Derived.ChangeAlike
import Derived.Test.YtofibjflkebkpaaGreatDoorRows
import Derived.Sort.LotD2
import Derived.Sort.LotA
set_option maxRecDepth 100000
set_option maxHeartbeats 16000000
namespace Go.Proofs.YtofibjflkebkpaaGreatDoor
open Go.RowKit
theorem qr:(Tryz.prog.info? 106).map (fun i=>(i.zero,i.size,i.bytes))=some (some (.agg #[.int .i64 0,.int .i64 0,.slice none 0 0]),3,40):=by kernel_rfl
def wg (w:World) (v:Value) (ks:List Int):Prop :=
 ∃ (a:Option Addr) (c:Nat),v=.slice a ks.length c/\(ks.length<=c/\(a=none->c=0))/\ks.length<=140737488355328 /\
  ∀ i (h:i<ks.length),∃ b o,a=some ⟨b,o,none⟩/\∃ (u1:Int) (sa:Option Addr) (sn sc:Nat),w.cell? ⟨b,o+i*3,none⟩=some (.int .i64 ks[i])/\w.cell? ⟨b,o+i*3+1,none⟩=some (.int .i64 u1)/\w.cell? ⟨b,o+i*3+2,none⟩=some (.slice sa sn sc)
def cC (w:World) (B:Nat) (v:Value) (ks:List Int):Prop :=
 ∃ cells,w.ownsRow B 106 3 v ks.length cells/\ks.length<=100000/\∀ i (h:i<ks.length),cells[i*3]?=some (.int .i64 ks[i])/\∃ (u1:Int) (sa:Option Addr) (sn sc:Nat),cells[i*3+1]?=some (.int .i64 u1)/\cells[i*3+2]?=some (.slice sa sn sc)
theorem cC.at {w:World} {B:Nat} {v:Value} {ks:List Int} (h:cC w B v ks):wg w v ks:=by
 obtain ⟨cells,⟨h1,h2⟩,h3,h4⟩:=h;rcases h2 with ⟨rfl,h5⟩ | ⟨g,cap,cur,rfl,h5,h6,h7,h8,h9,h10⟩
 ·have:ks=[]:=List.eq_nil_of_length_eq_zero h5
  subst this;exact ⟨none,0,rfl,⟨by simp,fun _=>rfl⟩,by simp,fun i h=>by simp at h⟩
 ·refine ⟨_,cap,rfl,⟨h7,fun h=>by cases h⟩,by omega,fun i hi=>⟨g,0,rfl,?_⟩⟩
  have key:∀ j,j<ks.length*3->w.cell? ⟨g,j,none⟩=cells[j]?:=by
   intro j hj;have e1:(cur.toList.take (ks.length*3))[j]?=cells[j]?:=by rw [h10]
   rw [List.getElem?_take_of_lt hj] at e1;simp only [World.cell?,h6];simpa using e1
  obtain ⟨e0,u1,sa,sn,sc,e1,e2⟩:=h4 i hi;refine ⟨u1,sa,sn,sc,?_,?_,?_⟩
  ·rw [Nat.zero_add,key _ (by omega)];exact e0
  ·rw [Nat.zero_add,key _ (by omega)];exact e1
  ·rw [Nat.zero_add,key _ (by omega)];exact e2
def bI (V:Nat) (mark:List Bool) (nodes:List Nd):Nat->List Int
 | 0=>[]
 | k+1=>if mark.getD (V+k) false then bI V mark nodes k++[(nodes.getD k bz).kind] else bI V mark nodes k
theorem nj (V:Nat) (mark:List Bool) (nodes:List Nd) (k:Nat):(bI V mark nodes k).length<=k:=by
 induction k with
 | zero=>simp [bI]
 | succ k ih =>
  unfold bI;split
  ·simp;omega
  ·omega
structure TInv (w1 w3 wr:World) (g V n:Nat) (ov:Value) (tl:List Int) (ks:List Int) (mark:List Bool):Prop where
 tlen:tl.length=V+n
 row:aj wr (w1.heap.size+1) 3 (tl.map (.int .i64))
 box:aj wr w1.heap.size 41 [.int .i64 V,ov,.int .i64 0]
 own:cC wr w3.heap.size ov ks
 marks:aj wr g 4 (mark.map .bool)
 kept:ag w1 wr
 size:w3.heap.size<=wr.heap.size
def xm (V n k:Nat):List Int:=(List.range k).map (fun i:Nat=>(i:Int))++List.replicate (V+n - k) 0
theorem tK (V n k:Nat) (h:k<V):(xm V n k).set k (k:Int)=xm V n (k+1):=by
 unfold xm;rw [List.set_append_right _ _ (by simp),List.range_succ,List.map_append,show V+n - k=(V+n - (k+1))+1 by omega,List.replicate_succ];simp
theorem nW (V n k:Nat) (h:k<=V):(xm V n k).length=V+n:=by simp [xm];omega
theorem sb {wo wr w5:World} {kd kk z:Int} {uv nv:Value} {ys:List Int} {o:Obj} (hown:OwnInts wr (wo.heap.size+2) uv ys) (hrow:aj wr (wo.heap.size+1) 106 [.int .i64 kd,.int .i64 kk,uv]) (hK:ag wo wr) (hsz:wo.heap.size+2<=wr.heap.size) (hys:ys.length<=1000)
  (h5:w5.ownsRow (wo.heap.size+2) 3 1 nv (ys.length+1) (ys.map (Value.int .i64)++[.int .i64 z])) (hg:(wr.alloc o).grownBy w5 uv.ownBlock) :
  OwnInts (w5.setCell ⟨wo.heap.size+1,2,none⟩ nv) (wo.heap.size+2) nv (ys++[z])/\aj (w5.setCell ⟨wo.heap.size+1,2,none⟩ nv) (wo.heap.size+1) 106 [.int .i64 kd,.int .i64 kk,nv]/\ag wo (w5.setCell ⟨wo.heap.size+1,2,none⟩ nv)/\wo.heap.size+2<=(w5.setCell ⟨wo.heap.size+1,2,none⟩ nv).heap.size:=by
 have hne:some (wo.heap.size+1)≠uv.ownBlock:=by
  intro e;have:=(hown.1.lt _ e.symm).1;omega
 have hb:w5.heap[wo.heap.size+1]?=wr.heap[wo.heap.size+1]?:=(hg.block _ (by simp;omega) hne).trans (Below.heap_alloc wr o _ (by omega));have hbel:=bf hg (hown.1.alloc o) (by simp;omega);have hk5:ag wo w5:=(hK.alloc o).app (hbel.mono (by omega));refine ⟨⟨?_,by simp;omega⟩,?_,hk5.store (by omega) _ _,?_⟩
 ·have:=ownsRow_setCell_below h5 (a:=⟨wo.heap.size+1,2,none⟩) (by show wo.heap.size+1<_;omega) nv;simpa using this
 ·have:=(hrow.same hb).store 2 nv;simpa using this
 ·have h1:=hbel.size;simp at h1;simp [World.setCell];omega
theorem nA {w:World} {b o:Nat} {cs:List Value} (h:w.rangeAt b o cs) {p:Nat} (hp:b≠p) (i:Nat) (u:Value):(w.setCell ⟨p,i,none⟩ u).rangeAt b o cs :=
 fun j v hj=>ky (h j v hj) hp i u
theorem zF {ops:Array Oper} {rest:List Oper} {o:Oper} {a:Act} {Q:Exit->Act->World->Prop} {w:World} (hgd:o.guard=none) (s x:Operand)
  (ho:o.op=.call { callee:=.builtin .append,args:=#[s,x],argTypes:=#[39,39] }) (B:Nat) (v:Value) (ks:List Int) (hs:a.eval s=v) (hown:cC w B v ks)
  (g:Nat) (kd x1:Int) (sa:Option Addr) (sn sc:Nat) (hx:a.eval x=.slice (some ⟨g,0,none⟩) 1 1) (hc:w.rangeAt g 0 [.int .i64 kd,.int .i64 x1,.slice sa sn sc]) (hl:ks.length<100000) (hB:B<=w.heap.size)
  (h:∀ v' w',cC w' B v' (ks++[kd])->w.grownBy w' v.ownBlock->Below B w w'->wpList Tryz.prog ops Q rest (a.put o.dst v') w'):wpList Tryz.prog ops Q (o :: rest) a w:=by
 obtain ⟨i0,hi0,hz0,hz1,hz2⟩:=info_parts qr;obtain ⟨cells,hown1,hkl,hcell⟩:=hown;refine wpList_append_own _ hgd s x 39 ho B 106 i0 _ 3 40 Tryz.underlying39 hi0 hz0 hz1 hz2 rfl (by decide) v ks.length cells hs hown1 ⟨g,0,none⟩ 1 1 [.int .i64 kd,.int .i64 x1,.slice sa sn sc] hx rfl ?_ ?_ (by unfold maxLen;omega) (by omega) hB ?_
 ·intro j u hj;have:=hc j u hj;rw [Addr.add_mid];exact this
 ·intro u hu;simp at hu;rcases hu with rfl | rfl | rfl <;> rfl
 ·intro v' w' h3 h4 _;refine h v' w' ⟨cells++[.int .i64 kd,.int .i64 x1,.slice sa sn sc],by simpa using h3,by simp;omega,?_⟩ h4 (bf h4 hown1 hB);intro i hi;simp at hi;have hcl:cells.length=ks.length*3:=hown1.1;by_cases hik:i<ks.length
  ·obtain ⟨e0,u1,ua,un,uc,e1,e2⟩:=hcell i hik;refine ⟨?_,u1,ua,un,uc,?_,?_⟩
   ·rw [List.getElem?_append_left (by omega),e0,List.getElem_append_left hik]
   ·rw [List.getElem?_append_left (by omega),e1]
   ·rw [List.getElem?_append_left (by omega),e2]
  ·have e:i=ks.length:=by omega
   subst e;refine ⟨?_,x1,sa,sn,sc,?_,?_⟩
   ·rw [List.getElem?_append_right (by omega),hcl];simp
   ·rw [List.getElem?_append_right (by omega),hcl];simp
   ·rw [List.getElem?_append_right (by omega),hcl];simp
theorem gO (w:World) (x0 x1 x2:Value) (e:TypeId):(w.alloc (.cells #[x0,x1,x2] e)).rangeAt w.heap.size 0 [x0,x1,x2]:=by
 have h:=aj.made w #[x0,x1,x2] e;intro j v hj
 match j,hj with
 | 0,hj=>simp at hj;subst hj;exact h.cell (i:=0) (by simp)
 | 1,hj=>simp at hj;subst hj;exact h.cell (i:=1) (by simp)
 | 2,hj=>simp at hj;subst hj;exact h.cell (i:=2) (by simp)
theorem oz {w:World} {a:Addr} (h:w.frozen? a=false) {p:Nat} (hp:a.block≠p) (i:Nat) (u:Value):(w.setCell ⟨p,i,none⟩ u).frozen? a=false :=
 (World.frozen?_of_block (w:=w) (Below.heap_setCell w ⟨p,i,none⟩ u a.block hp)).trans h
theorem ag.free {w w':World} (h:ag w w') {p:Addr} (hp:p.block<w.heap.size) (hf:w.frozen? p=false):w'.frozen? p=false:=(Below.frozen h hp).trans hf
theorem nz (w:World) (a:Addr) (u x0 x1 x2:Value) (e:TypeId):((w.setCell a u).alloc (.cells #[x0,x1,x2] e)).rangeAt w.heap.size 0 [x0,x1,x2]:=by
 have h:=gO (w.setCell a u) x0 x1 x2 e
 rwa [show (w.setCell a u).heap.size=w.heap.size by simp [World.setCell]] at h
theorem cC.kept {w w':World} {B:Nat} {v:Value} {ks:List Int} (h:cC w B v ks) (hk:ag w w'):cC w' B v ks:=by
 obtain ⟨cells,h1,h2⟩:=h;exact ⟨cells,fb h1 hk,h2⟩
theorem cC.below {w:World} {B:Nat} {v:Value} {ks:List Int} (h:cC w B v ks) {a:Addr} (ha:a.block<B) (u:Value):cC (w.setCell a u) B v ks:=by
 obtain ⟨cells,h1,h2⟩:=h;exact ⟨cells,ownsRow_setCell_below h1 ha u,h2⟩
theorem Ak {w1 w3 wo wr w6:World} {g V n k:Nat} {ov nv:Value} {tl ks:List Int} {R:List Bool} {kd t:Int} {cs:Array Value} (hI:TInv w1 w3 wo g V n ov tl ks R) (hK:ag wo wr) (h1:w1.heap.size+1<w3.heap.size) (hg:w1.heap.size+1<g) (hg3:g<w3.heap.size)
  (h6:cC w6 w3.heap.size nv (ks++[kd])) (hg6:((wr.setCell ⟨w1.heap.size+1,k,none⟩ (.int .i64 t)).alloc (.cells cs 106)).grownBy w6 ov.ownBlock) :
  TInv w1 w3 (w6.setCell ⟨w1.heap.size,1,none⟩ nv) g V n nv (tl.set k t) (ks++[kd]) R:=by
 have hs:=hK.size;have hs3:=hI.size
 have hown:∀ j,j<w3.heap.size->some j≠ov.ownBlock:=by
  intro j hj e;obtain ⟨cells,ho,_⟩:=hI.own;have:=(ho.lt _ e.symm).1;omega
 have hb:∀ j,j<w3.heap.size->w6.heap[j]?=(wr.setCell ⟨w1.heap.size+1,k,none⟩ (.int .i64 t)).heap[j]?:=by
  intro j hj;have l1:(wr.setCell ⟨w1.heap.size+1,k,none⟩ (.int .i64 t)).heap.size=wr.heap.size:=by simp [World.setCell]
  exact (hg6.block j (by simp;omega) (hown j hj)).trans (Below.heap_alloc _ _ j (by omega))
 have hrow:=(hI.row.kept hK).store k (.int .i64 t);rw [<-List.map_set] at hrow;have hbox:=((hI.box.kept hK).other (p:=w1.heap.size+1) (by omega) k (.int .i64 t));have hmk:=((hI.marks.kept hK).other (p:=w1.heap.size+1) (by omega) k (.int .i64 t));refine ⟨by rw [List.length_set];exact hI.tlen,?_,?_,h6.below (by show w1.heap.size<_;omega) _,?_,?_,?_⟩
 ·exact (hrow.same (hb _ (by omega))).other (by omega) _ _
 ·have:=(hbox.same (hb _ (by omega))).store 1 nv;simpa using this
 ·exact (hmk.same (hb _ (by omega))).other (by omega) _ _
 ·have l1:(wr.setCell ⟨w1.heap.size+1,k,none⟩ (.int .i64 t)).heap.size=wr.heap.size:=by simp [World.setCell]
  have k1:ag w1 (wr.setCell ⟨w1.heap.size+1,k,none⟩ (.int .i64 t)):=(hI.kept.trans hK).store (by omega) _ _;have k2:ag w1 w6:=(k1.alloc _).app ⟨hg6.os,hg6.tape,hg6.output,hg6.size,fun j hj=>hg6.block j (by simp;omega) (hown j (by omega))⟩;exact k2.store (Nat.le_refl _) _ _
 ·have l1:(wr.setCell ⟨w1.heap.size+1,k,none⟩ (.int .i64 t)).heap.size=wr.heap.size:=by simp [World.setCell]
  have:=hg6.size;simp at this;simp [World.setCell] at this⊢;omega
theorem BQ (v:Value) (f:Fm) (V T:Nat) (w:World) (hv:bp w v f.nodes) (hok:Ok f V T) (hck:fJ f=0) :
  Calls Tryz.prog 81 #[.agg #[.int .i64 V,v,.int .i64 T]] w fun e w'=>∃ tv,∃ top:Int,e=.returned (.tuple #[.agg #[.int .i64 V,tv,.int .i64 top],.nilIface])/\wg w' tv (bI V (aR V T f.nodes) f.nodes f.nodes.length)/\ag w w':=by
 have hchk:=fU v f w hv (by rw [hok.top];have:=hok.tlt;have:=hok.n128;have:=hok.v24;omega);rw [hck] at hchk;unfold sx at hchk;rw [hok.vars,hok.top] at hchk;have HCH:=af (fun W (hk:ag w W)=>fU v f W (hv.kept hk) (by rw [hok.top];have:=hok.tlt;have:=hok.n128;have:=hok.v24;omega));have HBL:=af (fun W (hk:ag w W)=>qd v f V T W (hv.kept hk) hok);have HV:=af hv;obtain ⟨a,c,rfl,_,hl,hx⟩:=hv;obtain ⟨n,hn⟩:∃ n,n=f.nodes.length:=⟨_,rfl⟩;rw [<-hn] at hl HCH HBL;have hn9:n<=128:=by rw [hn];exact hok.n128
 have hV9:=hok.v24;have hT9:T<V+n:=by rw [hn];exact hok.tlt
 have E1:=af (show sx (.slice a n c) f=.agg #[.int .i64 V,.slice a n c,.int .i64 T] by unfold sx;rw [hok.vars,hok.top]);have hch2:∀ W,ag w W->Calls Tryz.prog 30 #[.agg #[.int .i64 V,.slice a n c,.int .i64 T]] W fun e w'=>e=.returned (aY (fJ f))/\ag W w':=fun W hk=>by have:=HCH.out W hk;rw [E1.out] at this;exact this
 have HCH2:=af hch2;clear hch2;clear HCH E1;have E2:=af (show aY (fJ f)=.nilIface by rw [hck];rfl);have HX:=af hx;have HN:=af hn;have HO:=af hok;rw [<-hn];clear hx hn hok hl hck hchk;go_enter Tryz.func81,Tryz.ntmps81
 go_wp2_with (first
  | (go_at_call 30;refine (HCH2.out _ (((ag.refl _).alloc _).alloc _)).mono ?_;rintro e w1 ⟨rfl,hk1⟩;rw [E2.out];have hs1:=hk1.size;simp only [World.size_alloc] at hs1;have ls0:w.heap.size<w1.heap.size:=(by omega);have ls1:w.heap.size+1<w1.heap.size:=(by omega);have b0:=hk1.cell (p:=⟨w.heap.size,0,none⟩) (v:=.int .i64 V) (by simp);have b1:=hk1.cell (p:=⟨w.heap.size,1,none⟩) (v:=.slice a n c) (by simp);have b2:=hk1.cell (p:=⟨w.heap.size,2,none⟩) (v:=.int .i64 T) (by simp))
  | (at_make;refine cS 22 3 _ 8 eX Tryz.underlying22 rfl rfl _ _ rfl (V+n) (by show Value.int .i64 ((V:Int)+(n:Int))=.int .i64 ((V+n:Nat):Int);rw [Int.natCast_add]) (by show Value.int .i64 ((V:Int)+(n:Int))=.int .i64 ((V+n:Nat):Int);rw [Int.natCast_add]) (by omega) (by unfold maxLen;omega) ?_;intro w2 hr2 hk2;simp only [World.size_alloc] at hr2;have HR2:=af hr2;clear hr2;have hk02:=(hk1.trans ((ag.refl _).alloc _)).trans hk2;have d0:=hk02.cell (p:=⟨w.heap.size,0,none⟩) (v:=.int .i64 V) (by simp)))
 go_loopw [7,32] (fun _ i wr=>∃ k:Nat,k<=V/\i=.int .i64 k/\aj wr (w1.heap.size+1) 3 ((xm V n k).map (.int .i64))/\ag (w1.alloc (.cells #[.int .i64 V,.slice none 0 0,.int .i64 0] 41)) wr) (fun _ i _=>V - (intOf i).toNat)
 case atStart=>exact ⟨0,Nat.zero_le _,rfl,by simpa [xm] using HR2.out,hk2⟩
 case round =>
  clear hk2;obtain ⟨k,hk,rfl,hrow,hK⟩:=hrel;by_cases hlt:k<V
  ·have cY:=hrow.cell (i:=k) (by rw [List.length_map,nW V n k hk];omega);have fY:=hrow.free k;have hnew:=hrow.store k (.int .i64 k);have hKn:=hK.store (g:=w1.heap.size+1) (by simp) k (.int .i64 k);have hY1:(k:Int)<(V:Int)+(n:Int):=by omega
   have hY2:(k:Int)<((V+n:Nat):Int):=by omega
   rw [<-List.map_set,tK V n k hlt] at hnew;have HNW:=af hnew;have HKN:=af hKn;clear hnew hKn hrow hK;go_wp2;go_roundw
   case rel=>exact ⟨k+1,by omega,by go_num,HNW.out,HKN.out⟩
   case measure=>simp [intOf];omega
  ·have e:k=V:=by omega
   have htl:=nW V n k hk;obtain ⟨tl,htle⟩:∃ tl,tl=xm V n k:=⟨_,rfl⟩;rw [<-htle] at hrow htl;have hkw:=(hk1.trans ((ag.refl _).alloc _)).trans hK;have hkW:ag w wr:=(((ag.refl w).alloc _).alloc _).trans hkw;have q0:=hkw.cell (p:=⟨w.heap.size,0,none⟩) (v:=.int .i64 V) (by simp);have q1:=hkw.cell (p:=⟨w.heap.size,1,none⟩) (v:=.slice a n c) (by simp);have q2:=hkw.cell (p:=⟨w.heap.size,2,none⟩) (v:=.int .i64 T) (by simp);have hlt1:=hrow.lt;have HRO:=af hrow;have HKK:=af hK;have HKW:=af hkW;have hVn:(V:Int)<=(V:Int)+(n:Int):=by omega
   have hVn2:(V:Int)<=((V+n:Nat):Int):=by omega
   clear e hrow hkw hkW hK htle;go_wp2
   go_region_held3 (fun w'=>w'.cell? ⟨w.heap.size,0,none⟩=some (.int .i64 V)/\w'.cell? ⟨w.heap.size,1,none⟩=some (.slice a n c)/\w'.cell? ⟨w.heap.size,2,none⟩=some (.int .i64 T))
    (first | go_keep | exact ⟨hk3.cell q0,hk3.cell q1,hk3.cell q2⟩)
    (first | (go_at_call 136;refine (HBL.out _ (HKW.out.drew)).mono ?_;rintro e w3 ⟨g,rfl,hg,hr3,hk3⟩))
   obtain ⟨R,hR⟩:∃ R,R=aR V T f.nodes:=⟨_,rfl⟩;rw [<-hR] at hr3;have HR3:=af hr3;have HRe:=af hR;have HG3:g<w3.heap.size:=HR3.out.lt;have hg2:w1.heap.size+1<g:=by have h9:wr.heap.size<=g:=hg;omega
   have hkw3:ag (w1.alloc (.cells #[.int .i64 V,.slice none 0 0,.int .i64 0] 41)) w3:=HKK.out.trans ((ag.refl wr).drew.trans hk3);have hinv0:TInv w1 w3 w3 g V n (.slice none 0 0) tl [] R:=⟨htl,HRO.out.kept ((ag.refl wr).drew.trans hk3),(aj.made w1 _ _).kept hkw3,⟨[],World.ownsRow_nil _ _ _ _,by simp,fun i h=>by simp at h⟩,HR3.out,((ag.refl w1).alloc _).trans hkw3,Nat.le_refl _⟩;have HI0:=af hinv0;have HKW1:=af hk1;clear hR hr3 hinv0 hkw3 hk3 q0 q1 q2 HRO HKK hg;by_cases hn0:n=0
   ·subst hn0;have hkW2:=HKW1.out.trans HI0.out.kept;have hbx:=HI0.out.box;have d0:=hkW2.cell (p:=⟨w.heap.size,0,none⟩) (v:=.int .i64 V) (by simp);have d2:=hkW2.cell (p:=⟨w.heap.size,2,none⟩) (v:=.int .i64 T) (by simp);have c0:=hbx.cell (i:=0) (by simp);have c1:=hbx.cell (i:=1) (by simp);have c2:=hbx.cell (i:=2) (by simp);have f2:=hbx.free 2;have hTl:T<tl.length:=by rw [HI0.out.tlen];omega
    obtain ⟨zt,cT⟩:∃ z:Int,w3.cell? ⟨w1.heap.size+1,T,none⟩=some (.int .i64 z):=⟨tl[T],by have:=HI0.out.row.cell (i:=T) (by simpa using hTl);rw [List.getElem_map] at this;exact this⟩;have hY1:(T:Int)<(V:Int):=by omega
    have hres:aj w3 (w.heap.size+1) 41 [.int .i64 0,.slice none 0 0,.int .i64 0]:=by
     have:=(aj.made (w.alloc (.cells #[.int .i64 V,.slice a 0 c,.int .i64 T] 41)) #[.int .i64 0,.slice none 0 0,.int .i64 0] 41).kept hkW2;simpa using this
    have r0:=hres.cell (i:=0) (by simp);have r1:=hres.cell (i:=1) (by simp);have r2:=hres.cell (i:=2) (by simp);have s0:=hres.free 0;have s1:=hres.free 1;have s2:=hres.free 2;simp only [List.getElem_cons_succ,List.getElem_cons_zero] at r0 r1 r2 c0 c1 c2;have ne1:w1.heap.size≠w.heap.size+1:=by omega
    have ne2:w.heap.size+1≠w1.heap.size:=by omega
    clear hbx hres;go_wp2;refine wp_loop_rounds 1 ?_;rw [rounds_succ];go_wp2;refine bodyPost_ret (v:=.tuple #[.agg #[.int .i64 V,.slice none 0 0,.int .i64 zt],.nilIface]) ?_ rfl ⟨_,_,rfl,?_,?_⟩
    ·simp [results,Tryz.results81,go_sem,r0,r1,r2]
    ·exact ⟨none,0,rfl,⟨by simp [bI],fun _=>rfl⟩,by simp [bI],fun i h=>by simp [bI] at h⟩
    ·have hkA:ag w w3:=(((ag.refl w).alloc _).alloc _).trans hkW2;exact (((hkA.store (by omega) _ _).store (by omega) _ _).store (by omega) _ _).store (by omega) _ _
   ·have hn1:0<n:=by omega
    have hn2:V<V+n:=by omega
    go_wp2;go_loopw [8,9,10,11,13,46,66] (fun _ _ _ _ _ i _ wr=>∃ (k:Nat) (ov:Value) (tl:List Int),k<=n/\i=.int .i64 k/\TInv w1 w3 wr g V n ov tl (bI V R f.nodes k) R) (fun _ _ _ _ _ i _ _=>n - (intOf i).toNat)
    case atStart=>exact ⟨0,_,tl,Nat.zero_le _,rfl,HI0.out⟩
    case round =>
     obtain ⟨k,ov,tl,hk,rfl,hinv⟩:=hrel;have hkW2:=HKW1.out.trans hinv.kept;have q0:=hkW2.cell (p:=⟨w.heap.size,0,none⟩) (v:=.int .i64 V) (by simp);have q1:=hkW2.cell (p:=⟨w.heap.size,1,none⟩) (v:=.slice a n c) (by simp);have q2:=hkW2.cell (p:=⟨w.heap.size,2,none⟩) (v:=.int .i64 T) (by simp);by_cases hlt:k<n
     ·have hRl:R.length=V+n:=by rw [HRe.out,oE,HN.out]
      have cm:=hinv.marks.cell (i:=V+k) (by simp;omega);rw [dW R (V+k) (by omega)] at cm;have hup:bI V R f.nodes (k+1)=if R.getD (V+k) false then bI V R f.nodes k++[(f.nodes.getD k bz).kind] else bI V R f.nodes k:=rfl
      have HUP:=af hup;clear hup;cases hmk:R.getD (V+k) false with
      | false =>
       rw [hmk] at cm;have HMK:=af hmk;have HI:=af hinv;clear hmk hinv hkW2;go_wp2;go_roundw
       case rel=>exact ⟨k+1,ov,tl,by omega,by go_num,by rw [HUP.out,HMK.out];exact HI.out⟩
       case measure=>simp [intOf];omega
      | true =>
       rw [hmk] at cm;have HMK:=af hmk;have HI:=af hinv;clear hmk hinv;have hkx:k<f.nodes.length:=by have:=HN.out;omega
       obtain ⟨b,o,rfl,u,hc1,hc2,hc3,hI⟩:=HX.out k hkx;have hkA:ag w wr:=(((ag.refl w).alloc (.cells #[.int .i64 V,.slice (some ⟨b,o,none⟩) n c,.int .i64 T] 41)).alloc (.cells #[.int .i64 0,.slice none 0 0,.int .i64 0] 41)).trans hkW2;have hrange:=eZ (hkA.cell hc1) (hkA.cell hc2) (hkA.cell hc3);obtain ⟨ax,cx,rfl,_,hlx,hcx⟩:=hI;have HRG:=af hrange;clear hc1 hc2 hc3 hrange;go_wp2_with (with_reducible refine wpList_load_mid rfl 106 _ rfl b (o+k*3) rfl _ _ HRG.out Tryz.underlying106 rfl (by kernel_rfl) ?_);obtain ⟨kd,hkd⟩:∃ x,x=f.nodes[k].kind:=⟨_,rfl⟩;obtain ⟨kk,hkk⟩:∃ x,x=f.nodes[k].k:=⟨_,rfl⟩;have hargs:=HO.out.args k hkx;have h16:=jA (HO.out.argc k hkx);obtain ⟨args,hag⟩:∃ x,x=f.nodes[k].args:=⟨_,rfl⟩;rw [<-hag] at hcx hargs hlx h16;rw [<-hkd,<-hkk,<-hag];obtain ⟨na,hna⟩:∃ x,x=args.length:=⟨_,rfl⟩;rw [<-hna] at hlx h16⊢;have HKD:=af hkd;have HCX:=af hcx;have HAR:=af hargs;have HNA:=af hna;have HKA:=af hkA;obtain ⟨i0,hi0,hz0,hz1,hz2⟩:=info_parts eX;have I0:=af hi0;have I1:=af hz0;have I2:=af hz1;have I3:=af hz2;have sz1:w1.heap.size+1<wr.heap.size:=HI.out.row.lt;obtain ⟨wo,rfl⟩:∃ wo:World,wo=wr:=⟨_,rfl⟩;clear hkd hkk hag hcx hargs hna hkA hkW2 hi0 hz0 hz1 hz2 q0 q1 q2 cm;go_loopw [13,66] (fun _ j wi=>∃ (p:Nat) (uv:Value) (ys:List Int),p<=na/\j=.int .i64 p/\ys.length<=p/\OwnInts wi (wo.heap.size+2) uv ys/\aj wi (wo.heap.size+1) 106 [.int .i64 kd,.int .i64 kk,uv]/\ag wo wi/\wo.heap.size+2<=wi.heap.size) (fun _ j _=>na - (intOf j).toNat)
       case atStart=>exact ⟨0,.slice none 0 0,[],Nat.zero_le _,rfl,by simp,OwnInts.nil _ _,by have:=aj.made (wo.alloc (.cells #[.int .i64 kd,.int .i64 kk,.slice ax na cx] 106)) #[.int .i64 kd,.int .i64 kk,.slice none 0 0] 106;simpa using this,((ag.refl _).alloc _).alloc _,by simp⟩
       case round =>
        obtain ⟨p,uv,ys,hp,rfl,hys,hown,hrow,hK,hsz⟩:=hrel;by_cases hpn:p<na
        ·have hpx:p<args.length:=by have:=HNA.out;omega
         obtain ⟨b2,o2,rfl,hc0⟩:=HCX.out p hpx;have hcell:=(HKA.out.trans hK).cell hc0;obtain ⟨y,hy⟩:∃ y,y=args[p]:=⟨_,rfl⟩;have hy2:=HAR.out args[p] (List.getElem_mem _);rw [<-hy] at hcell hy2;obtain ⟨Y,hY⟩:=Int.eq_ofNat_of_zero_le hy2.1;subst hY;have hYl:Y<tl.length:=by rw [HI.out.tlen];omega
         have cT:=hK.cell (HI.out.row.cell (i:=Y) (by simpa using hYl));obtain ⟨z,hz⟩:∃ z,z=tl[Y]:=⟨_,rfl⟩;simp only [List.getElem_map] at cT;rw [<-hz] at cT;have hY1:(Y:Int)<(V:Int)+(n:Int):=by omega
         have hY2:(Y:Int)<((V+n:Nat):Int):=by omega
         have cB:=hrow.cell (i:=2) (by simp);have fB:=hrow.free 2;simp only [List.getElem_cons_succ,List.getElem_cons_zero] at cB;have hszi:wo.heap.size+1<wr.heap.size:=by omega
         have hszj:w1.heap.size+1<wr.heap.size:=by omega
         have HOWN:=af hown;have HROW:=af hrow;have HK:=af hK
         have hfar:some (wo.heap.size+1)≠uv.ownBlock:=by
          intro e;have:=(hown.1.lt _ e.symm).1;omega
         have HFAR:=af hfar;clear hc0 hy hz hown hrow hK hfar;go_wp2;go_region_law ((refine step_append_lies _ (by rfl) _ _ _ (by rfl) (wo.heap.size+2) 3 i0 _ 1 8 Tryz.underlying22 I0.out I1.out I2.out I3.out rfl (by omega) uv ys.length _ (by rfl) ((HOWN.out.1.alloc _).drew) ⟨wr.heap.size,0,none⟩ 1 1 [.int .i64 z] (by rfl) (by rfl) (World.news_of_block (cs:=#[.int .i64 z]) (t:=3) (fr:=(0,0)) (heap_alloc_new wr _)) (by simp [Value.oneCell']) (by omega) (by unfold maxLen;omega) (by omega) (by simp;omega) (wr.heap.size+1) (by simp) ?_;intro gg cap w5 hown5 hgrow hat hlt5;have st5:=hgrow.cell (a:=⟨wo.heap.size+1,2,none⟩) (v:=uv) (((ag.refl wr).alloc _).cell cB) HFAR.out;have sf5:=(World.frozen?_of_block (a:=⟨wo.heap.size+1,2,none⟩) (hgrow.block (wo.heap.size+1) (by simp;omega) HFAR.out)).trans ((Below.frozen ((ag.refl wr).alloc _) (p:=⟨wo.heap.size+1,2,none⟩) (by simp;omega)).trans fB)));all_goals go_wp2
         all_goals
          have R:=sb (o:=.cells #[.int .i64 z] 3) HOWN.out HROW.out HK.out hsz (by omega) hown5 ⟨hgrow.os,hgrow.tape,hgrow.output,hgrow.size,hgrow.block⟩;go_roundw
          case rel=>exact ⟨p+1,_,_,by omega,by go_num,by simp;omega,R.1,R.2.1,R.2.2.1,R.2.2.2⟩
          case measure=>simp [intOf];omega
        ·obtain ⟨ks,hks⟩:∃ ks,ks=bI V R f.nodes k:=⟨_,rfl⟩;have hkl:=nj V R f.nodes k;rw [<-hks] at HI HUP hkl;have HKL:=af (show ks.length<100000 by omega);have hkc:=(HKW1.out.trans HI.out.kept).trans hK;have q0:=hkc.cell (p:=⟨w.heap.size,0,none⟩) (v:=.int .i64 V) (by simp);have hbx:=HI.out.box.kept hK;have c5:=hbx.cell (i:=1) (by simp);have f5:=hbx.free 1;have hrt:=HI.out.row.kept hK;have cT:=hrt.cell (i:=V+k) (by simp [HI.out.tlen];omega);have fT:=hrt.free (V+k);have hY1:(V:Int)+(k:Int)<(V:Int)+(n:Int):=by omega
         have hY2:(V:Int)+(k:Int)<((V+n:Nat):Int):=by omega
         have szz:w1.heap.size<wr.heap.size:=by omega
         have hrng:wr.rangeAt (wo.heap.size+1) 0 [.int .i64 kd,.int .i64 kk,uv]:=by
          intro j v hj
          match j,hj with
          | 0,hj=>simp at hj;subst hj;exact hrow.cell (i:=0) (by simp)
          | 1,hj=>simp at hj;subst hj;exact hrow.cell (i:=1) (by simp)
          | 2,hj=>simp at hj;subst hj;exact hrow.cell (i:=2) (by simp)
         simp only [List.getElem_cons_succ,List.getElem_cons_zero] at c5;obtain ⟨oa,oc,hov,_⟩:=HI.out.own.at;subst hov;obtain ⟨on,hon⟩:∃ on,on=ks.length:=⟨_,rfl⟩;rw [<-hon] at HI c5 hbx hkl;obtain ⟨ua,un,uc,huv⟩:=hown.ints.shape;subst huv;have HRNG:=af (fun x=>nA hrng (p:=w1.heap.size+1) (by omega) (V+k) x);have HRT:=af hrt;have HBX:=af hbx;have HK:=af hK;have HON:=af hon;clear hrng hrt hbx hK hkc hks hrow hown hon;have g3:g<w3.heap.size:=HG3;have g4:w1.heap.size+1<w3.heap.size:=by omega
         have hok1:=(HI.out.own.kept HK.out);have HOK1:=af (fun x=>(hok1.below (a:=⟨w1.heap.size+1,V+k,none⟩) (by show w1.heap.size+1<_;omega) x).kept ((ag.refl _).alloc (.cells #[.int .i64 kd,.int .i64 kk,.slice ua un uc] 106)))
         have hne5:some w1.heap.size≠(Value.slice oa on oc).ownBlock:=by
          intro e;obtain ⟨cells,ho,_⟩:=HI.out.own;have:=(ho.lt _ e.symm).1;omega
         have HNE5:=af hne5;have hw3r:w3.heap.size<=wr.heap.size:=Nat.le_trans HI.out.size HK.out.size;clear hok1 hne5
         go_wp2_with (first
          | (with_reducible refine wpList_load_mid rfl 106 _ rfl (wo.heap.size+1) 0 rfl _ _ (HRNG.out _) Tryz.underlying106 rfl (by kernel_rfl) ?_)
          | (at_builtin;refine zF rfl _ _ rfl w3.heap.size _ ks rfl (HOK1.out _) _ kd kk ua un uc rfl (nz _ _ _ _ _ _ _) HKL.out (by simp [World.setCell];omega) ?_;intro nv w6 hown6 hg6 hb6;obtain ⟨xa,xc,rfl,_⟩:=hown6.at;have HOWN6:=af hown6;clear hown6;have st5:=hg6.cell (a:=⟨w1.heap.size,1,none⟩) (v:=.slice oa on oc) (((ag.refl _).alloc _).cell (ky c5 (p:=w1.heap.size+1) (by show w1.heap.size≠_;omega) _ _)) HNE5.out;have sf5:=(World.frozen?_of_block (a:=⟨w1.heap.size,1,none⟩) (hg6.block w1.heap.size (by simp [World.setCell];omega) HNE5.out)).trans (((ag.refl _).alloc _).free (p:=⟨w1.heap.size,1,none⟩) (by simp [World.setCell];omega) (oz f5 (p:=w1.heap.size+1) (by show w1.heap.size≠_;omega) _ _))))
         have RI:=Ak (kd:=kd) (t:=(V:Int)+(on:Int)) HI.out HK.out g4 hg2 g3 HOWN6.out ⟨hg6.os,hg6.tape,hg6.output,hg6.size,hg6.block⟩;rw [show (ks++[kd]).length=ks.length+1 by simp] at RI;go_roundw
         case rel=>exact ⟨k+1,_,_,by omega,by go_num,by rw [HUP.out,HMK.out,if_pos rfl,show (f.nodes.getD k bz).kind=kd by rw [HKD.out];simp [List.getD_eq_getElem?_getD,hkx]];exact RI⟩
         case measure=>simp [intOf];omega
     ·have e:k=n:=by omega
      subst e;obtain ⟨oa,oc,hov,_⟩:=hinv.own.at;subst hov;have hbx:=hinv.box;have c0:=hbx.cell (i:=0) (by simp);have c1:=hbx.cell (i:=1) (by simp);have c2:=hbx.cell (i:=2) (by simp);have f2:=hbx.free 2;have hTl:T<tl.length:=by rw [hinv.tlen];omega
      obtain ⟨zt,cT⟩:∃ z:Int,wr.cell? ⟨w1.heap.size+1,T,none⟩=some (.int .i64 z):=⟨tl[T],by have:=hinv.row.cell (i:=T) (by simpa using hTl);rw [List.getElem_map] at this;exact this⟩;have hY1:(T:Int)<(V:Int)+(k:Int):=by omega
      have hY2:(T:Int)<((V+k:Nat):Int):=by omega
      have hres:aj wr (w.heap.size+1) 41 [.int .i64 0,.slice none 0 0,.int .i64 0]:=by
       have:=(aj.made (w.alloc (.cells #[.int .i64 V,.slice a k c,.int .i64 T] 41)) #[.int .i64 0,.slice none 0 0,.int .i64 0] 41).kept hkW2;simpa using this
      have r0:=hres.cell (i:=0) (by simp);have r1:=hres.cell (i:=1) (by simp);have r2:=hres.cell (i:=2) (by simp);have s0:=hres.free 0;have s1:=hres.free 1;have s2:=hres.free 2;simp only [List.getElem_cons_succ,List.getElem_cons_zero] at r0 r1 r2;simp only [List.getElem_cons_succ,List.getElem_cons_zero] at c0 c1 c2;have HI:=af hinv;have ne1:w1.heap.size≠w.heap.size+1:=by omega
      have ne2:w.heap.size+1≠w1.heap.size:=by omega
      clear hinv hbx hres;go_wp2;refine bodyPost_ret (v:=.tuple #[.agg #[.int .i64 V,.slice oa (bI V R f.nodes k).length oc,.int .i64 zt],.nilIface]) ?_ rfl ⟨_,_,rfl,?_,?_⟩
      ·simp [results,Tryz.results81,go_sem,r0,r1,r2]
      ·rw [<-HRe.out];have h3:w1.heap.size+1<w3.heap.size:=by omega
       exact ((((HI.out.own.below (a:=⟨w1.heap.size,2,none⟩) (by show w1.heap.size<_;omega) _).below (a:=⟨w.heap.size+1,0,none⟩) (by show w.heap.size+1<_;omega) _).below (a:=⟨w.heap.size+1,1,none⟩) (by show w.heap.size+1<_;omega) _).below (a:=⟨w.heap.size+1,2,none⟩) (by show w.heap.size+1<_;omega) _).at
      ·have hkA:ag w wr:=(((ag.refl w).alloc _).alloc _).trans hkW2;exact (((hkA.store (by omega) _ _).store (by omega) _ _).store (by omega) _ _).store (by omega) _ _
def nm (ks:List Int):Bool:=ks.all fun k=>!(k == 1||k == 5)
def fO (V T:Nat) (f:Fm):Bool:=nm (bI V (aR V T f.nodes) f.nodes f.nodes.length)
theorem mS (v:Value) (f:Fm) (V T:Nat) (w:World) (hv:bp w v f.nodes) (hok:Ok f V T) (hck:fJ f=0) :
  Calls Tryz.prog 124 #[.agg #[.int .i64 V,v,.int .i64 T]] w fun e w'=>e=.returned (.tuple #[.bool (fO V T f),.nilIface])/\ag w w':=by
 have H:=af (fun W (hk:ag w W)=>BQ v f V T W (hv.kept hk) hok hck);have hlen:=nj V (aR V T f.nodes) f.nodes f.nodes.length;have h128:=hok.n128;unfold fO;obtain ⟨ks,hks⟩:∃ ks,ks=bI V (aR V T f.nodes) f.nodes f.nodes.length:=⟨_,rfl⟩;rw [<-hks] at H hlen⊢;obtain ⟨r,hr⟩:∃ r,r=nm ks:=⟨_,rfl⟩;rw [<-hr];have HR:=af hr;obtain ⟨n,hn⟩:∃ n,n=ks.length:=⟨_,rfl⟩;have hn9:n<=128:=by omega
 have HN:=af hn;clear hv hok hck hks hr hlen h128 hn;go_enter Tryz.func124,Tryz.ntmps124;go_wp2_with (go_at_call 81;refine (H.out _ ((ag.refl _).alloc _)).mono ?_;rintro e w1 ⟨tv,top,rfl,hkd,hk1⟩;obtain ⟨ta,tc,rfl,_,_,htc⟩:=hkd;rw [<-HN.out];have HTC:=af htc;clear htc;have hs1:=hk1.size;simp only [World.size_alloc] at hs1);have hk2:ag w (w1.alloc (.cells #[.int .i64 V,.slice ta n tc,.int .i64 top] 41)):=(((ag.refl _).alloc _).trans hk1).alloc _;go_loopw [7,19] (fun _ i wr=>∃ k:Nat,k<=n/\i=.int .i64 k/\Hid (nm (ks.take k)=true)/\ag w1 wr/\ag w wr) (fun _ i _=>n - (intOf i).toNat)
 case atStart=>exact ⟨0,Nat.zero_le _,rfl,af rfl,(ag.refl _).alloc _,hk2⟩
 case round =>
  clear hk2;obtain ⟨k,hk,rfl,HM,hK,hKw⟩:=hrel;by_cases hlt:k<n
  ·have hkx:k<ks.length:=by have:=HN.out;omega
   obtain ⟨b,o,rfl,u1,sa,sn,sc,c0,c1,c2⟩:=HTC.out k hkx
   have hstep:nm (ks.take (k+1))=(nm (ks.take k)&&!(ks[k] == 1||ks[k] == 5)):=by
    unfold nm;rw [List.take_succ_eq_append_getElem hkx,List.all_append];simp
   have hbad:(ks[k] == 1||ks[k] == 5)=true->r=false:=by
    intro h;rw [HR.out,nm,List.all_eq_false];exact ⟨ks[k],List.getElem_mem _,by rw [h];simp⟩
   obtain ⟨kd,hkd⟩:∃ kd,kd=ks[k]:=⟨_,rfl⟩;rw [<-hkd] at c0 hstep hbad
   have hrange:wr.rangeAt b (o+k*3) [.int .i64 kd,.int .i64 u1,.slice sa sn sc]:=by
    intro j v hj
    match j,hj with
    | 0,hj=>simp at hj;subst hj;exact hK.cell c0
    | 1,hj=>simp at hj;subst hj;exact hK.cell c1
    | 2,hj=>simp at hj;subst hj;exact hK.cell c2
   have HRG:=af hrange;have HS:=af hstep;have HB:=af hbad;clear c0 c1 c2 hrange hstep hbad hkd;by_cases h1:kd=1
   ·subst h1;go_wp2_with (with_reducible refine wpList_load_mid rfl 106 _ rfl b (o+k*3) rfl _ _ HRG.out Tryz.underlying106 rfl (by kernel_rfl) ?_);go_ret2;exact ⟨by rw [HB.out rfl];rfl,(hKw.alloc _)⟩
   ·by_cases h5:kd=5
    ·subst h5;go_wp2_with (with_reducible refine wpList_load_mid rfl 106 _ rfl b (o+k*3) rfl _ _ HRG.out Tryz.underlying106 rfl (by kernel_rfl) ?_);go_ret2;exact ⟨by rw [HB.out rfl];rfl,(hKw.alloc _)⟩
    ·have b1:(kd == 1)=false:=by simpa using h1
     have b5:(kd == 5)=false:=by simpa using h5
     go_wp2_with (with_reducible refine wpList_load_mid rfl 106 _ rfl b (o+k*3) rfl _ _ HRG.out Tryz.underlying106 rfl (by kernel_rfl) ?_);go_roundw
     case rel=>exact ⟨k+1,by omega,by go_num,af (by rw [HS.out,HM.out,b1,b5];rfl),hK.alloc _,hKw.alloc _⟩
     case measure=>simp [intOf];omega
  ·have e:r=true:=by
    have:=HM.out;rw [List.take_of_length_le (by have:=HN.out;omega)] at this;rw [HR.out];exact this
   have HE:=af e;clear e;go_wp2;go_ret2;exact ⟨by rw [HE.out];rfl,hKw⟩
def eP (w:World) (v:Value) (xss:List (List Nat)):Prop:=ix aH w v xss
theorem eP.kept {w w':World} {v:Value} {xss:List (List Nat)} (h:eP w v xss) (hk:ag w w'):eP w' v xss :=
 ix.kept (fun _ _ _ _ h k=>h.kept k) h hk
def OwnFams (w:World) (B:Nat) (v:Value) (xss:List (List Nat)):Prop :=
 ∃ us:List Value,us.length=xss.length/\w.ownsRow B 22 1 v xss.length us/\xss.length<=140737488355328/\∀ i (h:i<us.length) (h':i<xss.length),aF w 0 us[i] xss[i]
theorem OwnFams.at {w:World} {B:Nat} {v:Value} {xss:List (List Nat)} (h:OwnFams w B v xss):eP w v xss:=by
 obtain ⟨us,h1,⟨h2,h3⟩,h4,h5⟩:=h;rcases h3 with ⟨rfl,h6⟩ | ⟨g,cap,cur,rfl,h6,h7,h8,h9,h10,h11⟩
 ·have:xss=[]:=List.eq_nil_of_length_eq_zero h6
  subst this;exact ⟨none,0,rfl,⟨by simp,fun _=>rfl⟩,by simp,fun i h=>by simp at h⟩
 ·refine ⟨_,cap,rfl,⟨h8,fun h=>by cases h⟩,h4,fun i hi=>⟨g,0,us[i]'(by omega),rfl,?_,(h5 i (by omega) hi).sets⟩⟩;have e1:(cur.toList.take (xss.length*1))[i]?=us[i]?:=by rw [h11]
  rw [List.getElem?_take_of_lt (by omega)] at e1;simp only [World.cell?,h7,Nat.zero_add];simpa [h1,hi] using e1
theorem OwnFams.kept {w w':World} {B:Nat} {v:Value} {xss:List (List Nat)} (h:OwnFams w B v xss) (hk:ag w w'):OwnFams w' B v xss:=by
 obtain ⟨us,h1,h2,h3,h4⟩:=h;exact ⟨us,h1,fb h2 hk,h3,fun i h h'=>(h4 i h h').kept hk⟩
theorem OwnFams.nil (w:World) (B:Nat):OwnFams w B (.slice none 0 0) []:=⟨[],rfl,World.ownsRow_nil _ _ _ _,by simp,fun i h=>by simp at h⟩
theorem xd {w w':World} {B:Nat} {e e':TypeId} {size size' n n' B':Nat} {v v':Value} {xs xs':List Value} (h:w.ownsRow B e size v n xs) (h':w.ownsRow B' e' size' v' n' xs') (hne:e≠e')
  (hg:∀ k,k<w.heap.size->some k≠v'.ownBlock->w'.heap[k]?=w.heap[k]?):w'.ownsRow B e size v n xs:=by
 obtain ⟨h1,h2⟩:=h;refine ⟨h1,h2.imp id ?_⟩;rintro ⟨g,cap,cur,rfl,h5,h6,h7⟩;refine ⟨g,cap,cur,rfl,h5,(hg g (fD h6) ?_).trans h6,h7⟩;intro e;obtain ⟨_,⟨rfl,_⟩ | ⟨g2,cap2,cur2,rfl,_,h8,_⟩⟩:=h'
 ·cases e
 ·cases e;rw [h8] at h6;cases h6;exact hne rfl
theorem aF.tag {w w':World} {B:Nat} {e':TypeId} {size' n' B':Nat} {v v':Value} {ns:List Nat} {xs':List Value} (h:aF w B v ns) (h':w.ownsRow B' e' size' v' n' xs') (hne:3≠e')
  (hg:∀ k,k<w.heap.size->some k≠v'.ownBlock->w'.heap[k]?=w.heap[k]?):aF w' B v ns:=⟨⟨xd h.1.1 h' hne hg,h.1.2⟩,h.2⟩
theorem qV {ops:Array Oper} {rest:List Oper} {o:Oper} {a:Act} {Q:Exit->Act->World->Prop} {w:World} (hgd:o.guard=none) (s x:Operand)
  (ho:o.op=.call { callee:=.builtin .append,args:=#[s,x],argTypes:=#[104,104] }) (B:Nat) (v:Value) (xss:List (List Nat)) (hs:a.eval s=v) (hown:OwnFams w B v xss)
  (ad:Addr) (u:Value) (ys:List Nat) (hx:a.eval x=.slice (some ad) 1 1) (hc:w.cell? ad=some u) (hu:aF w 0 u ys) (hl:xss.length<1000000) (hB:B<=w.heap.size)
  (h:∀ v' w',OwnFams w' B v' (xss++[ys])->w.grownBy w' v.ownBlock->Below B w w'->wpList Tryz.prog ops Q rest (a.put o.dst v') w'):wpList Tryz.prog ops Q (o :: rest) a w:=by
 obtain ⟨us,h1,h2,h3,h4⟩:=hown;obtain ⟨ua,un,uc,rfl⟩:=hu.1.ints.shape;refine nQ 104 22 _ 24 mw Tryz.underlying104 rfl hgd s x ho B v us hs (by rw [h1];exact h2) ad _ hx hc rfl (by omega) (by simp [maxLen];omega) hB ?_;intro v' w' h5 h6 h7;refine h v' w' ⟨us++[.slice ua un uc],by simp [h1],by simpa [h1] using h5,by simp;omega,?_⟩ h6 h7;intro i hi hi';by_cases hik:i<us.length
 ·rw [List.getElem_append_left hik,List.getElem_append_left (by omega)];exact (h4 i hik (by omega)).tag h2 (by decide) (fun k hk hne=>h6.block k hk hne)
 ·have e:i=us.length:=by simp at hi;omega
  subst e;rw [List.getElem_append_right (Nat.le_refl _),List.getElem_append_right (by omega)];simp only [Nat.sub_self,h1,List.getElem_cons_zero];exact hu.tag h2 (by decide) (fun k hk hne=>h6.block k hk hne)
def bO (op:List Nat->List Nat->Option (List Nat)) (first:List Nat) (args:List (List Nat)):Option (List Nat):=args.foldlM op first
theorem oy (op:List Nat->List Nat->Option (List Nat)) (first:List Nat) (args:List (List Nat)) (k:Nat) (h:k<args.length):bO op first (args.take (k+1))=(bO op first (args.take k)).bind fun l=>op l args[k]:=by
 unfold bO;rw [List.take_succ_eq_append_getElem h,List.foldlM_append];simp [Option.bind_eq_bind]
theorem ox (op:List Nat->List Nat->Option (List Nat)) (first:List Nat) (args:List (List Nat)) (k:Nat) (h:bO op first (args.take k)=none):bO op first args=none:=by
 unfold bO at *;rw [<-List.take_append_drop k args,List.foldlM_append,h];rfl
def Joins (g:Nat) (op:List Nat->List Nat->Option (List Nat)):Prop :=
 ∀ (a b:List Nat) (va vb:Value) (w:World),aH w va a->aH w vb b->Calls Tryz.prog g #[va,vb] w fun e w'=>dj w' w.heap.size e (op a b)/\ag w w'
theorem aF.one (w:World) (B:Nat) (s:Nat) (hs:Mk s) (hB:B<=w.heap.size):aF (w.alloc (.cells #[.int .i64 s] 3)) B (.slice (some ⟨w.heap.size,0,none⟩) 1 1) [s] :=
 ⟨⟨⟨by simp,.inr ⟨w.heap.size,1,#[.int .i64 s],rfl,hB,heap_alloc_new w _,Nat.le_refl _,by unfold maxLen;omega,by simp,by simp⟩⟩,by simp⟩,by simpa using hs⟩
theorem aF.nils (w:World) (B:Nat):aF w B (.slice none 0 0) []:=⟨OwnInts.nil _ _,by simp⟩
theorem OwnFams.store {w:World} {B g n cap:Nat} {xss:List (List Nat)} (h:OwnFams w B (.slice (some ⟨g,0,none⟩) n cap) xss) (hn:n=xss.length) (i:Nat) {u:Value} {ys:List Nat} (hu:aF w 0 u ys) :
  OwnFams (w.setCell ⟨g,i,none⟩ u) B (.slice (some ⟨g,0,none⟩) n cap) (xss.set i ys):=by
 obtain ⟨us,h1,h2,h3,h4⟩:=h;subst hn;have h5:=h2.stored i u;refine ⟨us.set i u,by simp [h1],by simpa using h5.1,by simpa using h3,fun j hj hj'=>?_⟩;have hg:∀ k,k<w.heap.size->some k≠(Value.slice (some ⟨g,0,none⟩) xss.length cap).ownBlock->(w.setCell ⟨g,i,none⟩ u).heap[k]?=w.heap[k]?:=fun k hk hne=>h5.2.block k hk hne
 by_cases e:i=j
 ·subst e;rw [List.getElem_set_self,List.getElem_set_self];exact hu.tag h2 (by decide) hg
 ·rw [List.getElem_set_ne e,List.getElem_set_ne e];exact (h4 j (by simpa using hj) (by simpa using hj')).tag h2 (by decide) hg
theorem As {ops:Array Oper} {rest:List Oper} {o:Oper} {a:Act} {Q:Exit->Act->World->Prop} {w:World} (hg:o.guard=none) (l c:Operand)
  (hop:o.op=Op.makeSlice 104 l c) (n:Nat) (hl:a.eval l=.int .i64 n) (hc:a.eval c=.int .i64 n) (hb:n<=1000000)
  (hK:∀ w',OwnFams w' w.heap.size (.slice (some ⟨w.heap.size,0,none⟩) n n) (List.replicate n [])->ag w w'->w.heap.size<w'.heap.size->wpList Tryz.prog ops Q rest (a.put o.dst (.slice (some ⟨w.heap.size,0,none⟩) n n)) w'):wpList Tryz.prog ops Q (o :: rest) a w:=by
 obtain ⟨i0,hi0,hz0,hz1,hz2⟩:=info_parts mw;refine wpList_make_full w hg l c 104 hop w.heap.size 22 i0 _ 1 Tryz.underlying104 hi0 hz0 hz1 .i64 .i64 _ _ n hl hc rfl rfl (by rw [hz2];omega) (by unfold maxLen;omega) (Nat.le_refl _) ?_;intro w' h1 h2;rw [oI _ rfl n] at h1;refine hK w' ⟨List.replicate n (.slice none 0 0),by simp,by simpa using h1,by simp;omega,fun i h h'=>by simp [aF.nils]⟩ ⟨h2.os,h2.tape,h2.output,h2.size,fun k hk=>h2.block k hk (by simp)⟩ ?_;exact (h1.lt _ rfl).2
theorem OwnFams.cell {w:World} {B g n cap:Nat} {xss:List (List Nat)} (h:OwnFams w B (.slice (some ⟨g,0,none⟩) n cap) xss) (i:Nat) (hi:i<xss.length):∃ u,w.cell? ⟨g,i,none⟩=some u/\aF w 0 u xss[i]:=by
 obtain ⟨us,h1,h2,h3,h4⟩:=h;refine ⟨us[i]'(by omega),?_,h4 i (by omega) hi⟩;obtain ⟨h5,h6⟩:=h2;rcases h6 with ⟨h6,_⟩ | ⟨g',cap',cur,h6,_,h7,h8,h9,h10,h11⟩
 ·cases h6
 ·cases h6;have e1:(cur.toList.take (xss.length*1))[i]?=us[i]?:=by rw [h11]
  rw [List.getElem?_take_of_lt (by omega)] at e1;simp only [World.cell?,h7];simpa [h1,hi] using e1
theorem OwnFams.free {w:World} {B g n cap:Nat} {xss:List (List Nat)} (h:OwnFams w B (.slice (some ⟨g,0,none⟩) n cap) xss) (i:Nat):w.frozen? ⟨g,i,none⟩=false:=by
 obtain ⟨us,h1,⟨h2,h3⟩,_⟩:=h;rcases h3 with ⟨h3,_⟩ | ⟨g',cap',cur,h3,_,h4,_⟩
 ·cases h3
 ·cases h3;simp [World.frozen?,h4]
theorem OwnFams.shape {w:World} {B:Nat} {v:Value} {xss:List (List Nat)} (h:OwnFams w B v xss) (h0:xss≠[]):∃ g cap,v=.slice (some ⟨g,0,none⟩) xss.length cap/\B<=g/\g<w.heap.size/\xss.length<=cap:=by
 obtain ⟨us,h1,⟨h2,h3⟩,_⟩:=h;rcases h3 with ⟨_,h3⟩ | ⟨g,cap,cur,rfl,h4,h5,h6,_⟩
 ·exact absurd (List.eq_nil_of_length_eq_zero h3) h0
 ·exact ⟨g,cap,rfl,h4,fD h5,h6⟩
def DQ (arg:List Nat) (t:List (List Nat)) (m:Nat):Option (List Nat):=(aM arg (t.getD m [])).bind fun x=>bK x (t.getD (m+1) [])
def B_ (arg:List Nat) (t:List (List Nat)):Nat->Option (List (List Nat))
 | 0=>some [[0]]
 | m+1=>(B_ arg t m).bind fun acc=>(DQ arg t m).map fun x=>acc++[x]
def tO (k:Nat) (args:List (List Nat)):Nat->List (List Nat)->Option (List (List Nat))
 | 0,t=>some t
 | q+1,t=>(B_ (args.getD q []) t k).bind (tO k args q)
def EP (args:List (List Nat)) (k:Nat):Option (List Nat):=(tO k args args.length ([0] :: List.replicate k [])).map fun t=>t.getD k []
def EF (kind:Int) (k:Int) (fams:List (List Nat)):Option (List Nat) :=
 if kind=0 then (if k=1 then some [0] else some []) else if kind=3 then bO bK [] fams else if kind=2 then bO aM [0] fams else EP fams k.toNat
def eV (V:Nat) (out:List (List Nat)) (a:Int):List Nat:=if a<V then [2^a.toNat] else out.getD (a - V).toNat []
def Cr (V:Nat) (mark:List Bool) (nodes:List Nd) (out:List (List Nat)) (i:Nat):Option (List (List Nat)) :=
 if mark.getD (V+i) false then (EF (nodes.getD i bz).kind (nodes.getD i bz).k ((nodes.getD i bz).args.map (eV V out))).map fun l=>out.set i l else some out
def z_ (V:Nat) (mark:List Bool) (nodes:List Nd):Nat->Option (List (List Nat))
 | 0=>some (List.replicate nodes.length [])
 | k+1=>(z_ V mark nodes k).bind fun out=>Cr V mark nodes out k
def EA (V T:Nat) (nodes:List Nd):Option (List (List Nat)):=z_ V (aR V T nodes) nodes nodes.length
theorem sO (V:Nat) (mark:List Bool) (nodes:List Nd) (i:Nat) (h:mark.getD (V+i) false=true):∀ k,i<k->(nodes.getD i bz).kind∈bI V mark nodes k:=by
 intro k hk;induction k with
 | zero=>omega
 | succ k ih =>
  unfold bI;by_cases e:i=k
  ·subst e;rw [h];simp
  ·split
   ·exact List.mem_append.2 (.inl (ih (by omega)))
   ·exact ih (by omega)
theorem jF {V T:Nat} {f:Fm} (hok:Ok f V T) (hs:fO V T f=true) (i:Nat) (hi:i<f.nodes.length) (h:(aR V T f.nodes).getD (V+i) false=true) :
  f.nodes[i].kind=0\/f.nodes[i].kind=2\/f.nodes[i].kind=3\/f.nodes[i].kind=4:=by
 have h1:=sO V _ f.nodes i h f.nodes.length hi;unfold fO nm at hs;have h2:=List.all_eq_true.1 hs _ h1;rw [show f.nodes.getD i bz=f.nodes[i] by simp [List.getD_eq_getElem?_getD,hi]] at h2;have h3:=hok.kind i hi;simp at h2;omega
def FD (w':World) (B:Nat) (e:Ending) (r:Option (List (List Nat))):Prop :=
 match r with
 | some l=>∃ v,e=.returned (.tuple #[v,.nilIface])/\OwnFams w' B v l
 | none=>e=.returned (.tuple #[.slice none 0 0,aY 4])
theorem BC (Y:Nat) (h:Y<24):wrap64 ((2:Int)^Y)=((2^Y:Nat):Int)/\Mk (2^Y):=by
 have h1:(2:Nat)^Y<2^24:=Nat.pow_lt_pow_right (by omega) h;refine ⟨?_,h1⟩;rw [show (2:Int)^Y=((2^Y:Nat):Int) by simp];generalize (2:Nat)^Y=z at h1⊢;unfold wrap64;omega
theorem aF.shl (w:World) (Y:Nat) (h:Y<24):aF (w.alloc (.cells #[.int .i64 (wrap64 ((2:Int)^Y))] 3)) 0 (.slice (some ⟨w.heap.size,0,none⟩) 1 1) [2^Y]:=by
 rw [(BC Y h).1];exact aF.one w 0 (2^Y) (BC Y h).2 (Nat.zero_le _)
theorem a_ {a b:Nat}:aZ a b=true ↔ ∀ i,a.testBit i=true->b.testBit i=true:=by
 unfold aZ bk;rw [beq_iff_eq];constructor
 ·intro h i hi;have h1:(a ^^^ (a &&& b)).testBit i=false:=by rw [h];simp
  simp [hi] at h1;exact h1
 ·intro h;apply Nat.eq_of_testBit_eq;intro i;simp only [Nat.testBit_xor,Nat.testBit_and,Nat.zero_testBit];cases ha:a.testBit i with
  | false=>simp
  | true=>simp [h i ha]
theorem df (a:Nat):aZ a a=true:=a_.2 fun _ h=>h
theorem eI {a b c:Nat} (h1:aZ a b=true) (h2:aZ b c=true):aZ a c=true:=a_.2 fun i h=>a_.1 h2 i (a_.1 h1 i h)
theorem yZ {a b:Nat} (h:aZ a b=true):a % 2<=b % 2/\aZ (a / 2) (b / 2)=true:=by
 have h':=a_.1 h;refine ⟨?_,a_.2 fun i hi=>?_⟩
 ·have h0:=h' 0;simp only [Nat.testBit_zero,decide_eq_true_eq] at h0;omega
 ·have h0:=h' (i+1);simp only [Nat.testBit_succ] at h0;exact h0 hi
theorem Ea (n:Nat):∀ a b,b<=n->aZ a b=true->pc a<=pc b/\(pc a=pc b->a=b):=by
 induction n using Nat.strongRecOn with
 | ind n ih =>
  intro a b hb h;by_cases h0:b=0
  ·subst h0
   have:a=0:=by
    apply Nat.eq_of_testBit_eq;intro i;cases ha:a.testBit i with
    | false=>simp
    | true=>have:=a_.1 h i ha;simp at this
   subst this;exact ⟨Nat.le_refl _,fun _=>rfl⟩
  ·obtain ⟨h1,h2⟩:=yZ h;have:=ih (b / 2) (by omega) (a / 2) (b / 2) (Nat.le_refl _) h2;rw [cw a,cw b];refine ⟨by omega,fun he=>?_⟩;have e2:pc (a / 2)=pc (b / 2):=by omega
   have:=this.2 e2;omega
theorem fF {a b:Nat} (h:aZ a b=true):pc a<=pc b/\(pc a=pc b->a=b):=Ea b a b (Nat.le_refl _) h
theorem gp {a b:Nat} (h1:aZ a b=true) (h2:aZ b a=true):a=b:=by
 have:=fF h1;have:=fF h2;exact (fF h1).2 (by omega)
theorem uQ {a b:Nat} (h:aZ a b=true) (h2:dP b a):False:=by
 have h1:=fF h;unfold dP at h2;rcases h2 with h2 | h2
 ·omega
 ·have:=h1.2 (by omega);omega
theorem yh (l:List Nat):∀ out x,(out++l).Pairwise dP->(x∈l.foldl aG out ↔ x∈out\/x∈l/\∀ y,y∈out\/y∈l->aZ y x=true->y=x):=by
 induction l with
 | nil=>intro out x _;simp
 | cons s l ih =>
  intro out x hp;have hp':=List.pairwise_append.1 hp;have hs:=List.pairwise_cons.1 hp'.2.1;show x∈l.foldl aG (aG out s) ↔ _;by_cases hk:out.any (fun t=>aZ t s)=true
  ·rw [show aG out s=out from if_pos hk];obtain ⟨t,ht,hts⟩:=List.any_eq_true.1 hk;rw [ih out x (List.pairwise_append.2 ⟨hp'.1,hs.2,fun a ha b hb=>hp'.2.2 a ha b (List.mem_cons_of_mem _ hb)⟩)];constructor
   ·rintro (h | ⟨h1,h2⟩)
    ·exact .inl h
    ·refine .inr ⟨List.mem_cons_of_mem _ h1,?_⟩;rintro y (hy | hy) hyx
     ·exact h2 y (.inl hy) hyx
     ·rcases List.mem_cons.1 hy with e | e
      ·subst e;have:=h2 t (.inl ht) (eI hts hyx);subst this;exact absurd (hp'.2.2 t ht t (List.mem_cons_of_mem _ h1)) (dI t)
      ·exact h2 y (.inr e) hyx
   ·rintro (h | ⟨h1,h2⟩)
    ·exact .inl h
    ·rcases List.mem_cons.1 h1 with e | e
     ·subst e;have:=h2 t (.inl ht) hts;subst this;exact absurd (hp'.2.2 t ht t (List.mem_cons_self ..)) (dI t)
     ·exact .inr ⟨e,fun y hy=>h2 y (hy.imp id (List.mem_cons_of_mem _))⟩
  ·rw [show aG out s=out++[s] from if_neg hk];rw [ih (out++[s]) x (by simpa using hp)];have hk':∀ t∈out,¬ aZ t s=true:=fun t ht h=>hk (List.any_eq_true.2 ⟨t,ht,h⟩)
   have ms:∀ z,z∈out++[s] ↔ z∈out\/z=s:=fun z=>by simp
   simp only [ms,List.mem_cons];constructor
   ·rintro ((h | h) | ⟨h1,h2⟩)
    ·exact .inl h
    ·subst h;refine .inr ⟨.inl rfl,?_⟩;rintro y (hy | hy | hy) hyx
     ·exact absurd hyx (hk' y hy)
     ·exact hy
     ·exact (uQ hyx (hs.1 y hy)).elim
    ·refine .inr ⟨.inr h1,?_⟩;rintro y (hy | hy | hy) hyx
     ·exact h2 y (.inl (.inl hy)) hyx
     ·exact h2 y (.inl (.inr hy)) hyx
     ·exact h2 y (.inr hy) hyx
   ·rintro (h | ⟨h1 | h1,h2⟩)
    ·exact .inl (.inl h)
    ·exact .inl (.inr h1)
    ·refine .inr ⟨h1,?_⟩;rintro y ((hy | hy) | hy) hyx
     ·exact h2 y (.inl hy) hyx
     ·exact h2 y (.inr (.inl hy)) hyx
     ·exact h2 y (.inr (.inr hy)) hyx
theorem uT (l:List Nat):∀ out,(out++l).Pairwise dP->(l.foldl aG out).Pairwise dP:=by
 induction l with
 | nil=>intro out h;simpa using h
 | cons s l ih =>
  intro out h;show (l.foldl aG (aG out s)).Pairwise dP;by_cases hk:out.any (fun t=>aZ t s)=true
  ·rw [show aG out s=out from if_pos hk];refine ih out (List.Pairwise.sublist ?_ h);exact List.Sublist.append_left (List.sublist_cons_self s l) out
  ·rw [show aG out s=out++[s] from if_neg hk];exact ih _ (by simpa using h)
theorem bS (l:List Nat) (x:Nat):x∈aP l ↔ x∈l/\∀ y∈l,aZ y x=true->y=x:=by
 unfold aP gI;rw [yh (aQ l) [] x (by simpa using cW l)];simp [ci]
theorem gi (l:List Nat):(aP l).Pairwise dP:=uT _ [] (by simpa using cW l)
def up (l:List Nat) (s:Nat):Prop:=∃ t∈l,aZ t s=true
theorem ou (l:List Nat):∀ (n:Nat) (t:Nat),pc t<=n->t∈l->∃ y∈aP l,aZ y t=true:=by
 intro n;induction n with
 | zero =>
  intro t hn ht;refine ⟨t,(bS l t).2 ⟨ht,fun y hy h=>?_⟩,df t⟩;have:=fF h;exact this.2 (by omega)
 | succ n ih =>
  intro t hn ht;by_cases h:∃ y∈l,aZ y t=true/\y≠t
  ·obtain ⟨y,hy,h1,h2⟩:=h;have:=fF h1
   have h3:pc y<=n:=by
    by_cases e:pc y=pc t
    ·exact absurd (this.2 e) h2
    ·omega
   obtain ⟨z,hz,h4⟩:=ih y h3 hy;exact ⟨z,hz,eI h4 h1⟩
  ·exact ⟨t,(bS l t).2 ⟨ht,fun y hy h1=>Classical.byContradiction fun h2=>h ⟨y,hy,h1,h2⟩⟩,df t⟩
theorem lV (l:List Nat) (s:Nat):up (aP l) s ↔ up l s:=by
 constructor
 ·rintro ⟨t,ht,h⟩;exact ⟨t,gd ht,h⟩
 ·rintro ⟨t,ht,h⟩;obtain ⟨y,hy,h2⟩:=ou l _ t (Nat.le_refl _) ht;exact ⟨y,hy,eI h2 h⟩
theorem jo {l r:List Nat} (h:∀ s,up l s ↔ up r s) {x:Nat} (hx:x∈aP l):x∈aP r:=by
 obtain ⟨h1,h2⟩:=(bS l x).1 hx;obtain ⟨y,hy,hyx⟩:=(h x).1 ⟨x,h1,df x⟩;obtain ⟨z,hz,hzy⟩:=(h y).2 ⟨y,hy,df y⟩;have e1:=h2 z hz (eI hzy hyx);subst e1;have e2:y=z:=gp hyx hzy;subst e2;refine (bS r y).2 ⟨hy,fun w hw hwy=>?_⟩;obtain ⟨v,hv,hvw⟩:=(h w).2 ⟨w,hw,df w⟩;have e3:=h2 v hv (eI hvw hwy);subst e3;exact gp hwy hvw
theorem uM {l r:List Nat} (h:∀ s,up l s ↔ up r s):aP l=aP r :=
 d_ dP dI gH _ _ (gi l) (gi r) fun _=>⟨fun hx=>jo h hx,fun hx=>jo (fun s=>(h s).symm) hx⟩
def Dw (l:List Nat):Prop:=aP l=l
theorem oi (l:List Nat):Dw (aP l):=uM fun s=>lV l s
theorem vV (s:Nat):¬ up [] s:=by rintro ⟨t,h,_⟩;cases h
theorem Cb (s:Nat):aZ 0 s=true:=a_.2 fun i h=>by simp at h
theorem rW (s:Nat):up [0] s:=⟨0,by simp,Cb s⟩
theorem Ci:Dw []:=rfl
theorem Cj (x:Nat):Dw [x]:=by
 have h1:∀ y,y∈aP [x] ↔ y∈[x]:=fun y=>by rw [bS];simp;intro h _;exact h.symm
 exact d_ dP dI gH _ _ (gi [x]) (by simp) h1
theorem zj (a b:List Nat) (s:Nat):up (a++b) s ↔ up a s\/up b s:=by
 unfold up;constructor
 ·rintro ⟨t,h,h2⟩;rcases List.mem_append.1 h with h | h
  ·exact .inl ⟨t,h,h2⟩
  ·exact .inr ⟨t,h,h2⟩
 ·rintro (⟨t,h,h2⟩ | ⟨t,h,h2⟩)
  ·exact ⟨t,List.mem_append.2 (.inl h),h2⟩
  ·exact ⟨t,List.mem_append.2 (.inr h),h2⟩
theorem AM (x y s:Nat):aZ (x ||| y) s=true ↔ aZ x s=true/\aZ y s=true:=by
 rw [a_,a_,a_];constructor
 ·intro h;exact ⟨fun i hi=>h i (by simp [hi]),fun i hi=>h i (by simp [hi])⟩
 ·rintro ⟨h1,h2⟩ i hi;simp at hi;rcases hi with hi | hi
  ·exact h1 i hi
  ·exact h2 i hi
theorem Db (a b:List Nat) (s:Nat):up (kr a b) s ↔ up a s/\up b s:=by
 unfold up;constructor
 ·rintro ⟨t,h,h2⟩;obtain ⟨x,hx,y,hy,rfl⟩:=(oK a b t).1 h;have:=(AM x y s).1 h2;exact ⟨⟨x,hx,this.1⟩,⟨y,hy,this.2⟩⟩
 ·rintro ⟨⟨x,hx,h1⟩,⟨y,hy,h2⟩⟩;exact ⟨x ||| y,(oK a b _).2 ⟨x,hx,y,hy,rfl⟩,(AM x y s).2 ⟨h1,h2⟩⟩
theorem kL {a b l:List Nat} (h:bK a b=some l):l=aP (a++b)/\l.length<=1024:=by
 unfold bK at h;split at h
 ·split at h
  ·cases h;exact ⟨rfl,by assumption⟩
  ·cases h
 ·cases h
theorem fM {a b l:List Nat} (h:aM a b=some l):l=aP (kr (aP a) (aP b))/\l.length<=1024:=by
 unfold aM at h;split at h
 ·split at h
  ·cases h;exact ⟨rfl,by assumption⟩
  ·cases h
 ·cases h
theorem tN {a b l:List Nat} (h:bK a b=some l) (s:Nat):up l s ↔ up a s\/up b s:=by
 rw [(kL h).1,lV,zj]
theorem nH {a b l:List Nat} (h:aM a b=some l) (s:Nat):up l s ↔ up a s/\up b s:=by
 rw [(fM h).1,lV,Db,lV,lV]
theorem xA {a b l:List Nat} (h:bK a b=some l):Dw l:=by rw [(kL h).1];exact oi _
theorem rb {a b l:List Nat} (h:aM a b=some l):Dw l:=by rw [(fM h).1];exact oi _
theorem kD (op:List Nat->List Nat->Option (List Nat)) (f a:List Nat) (l:List (List Nat)):bO op f (a :: l)=(op f a).bind fun g=>bO op g l:=rfl
theorem zk (args:List (List Nat)) (s:Nat):∀ f l,bO bK f args=some l->(up l s ↔ up f s\/∃ a∈args,up a s):=by
 induction args with
 | nil=>intro f l h;cases h;simp
 | cons a args ih =>
  intro f l h;rw [kD] at h;cases h1:bK f a with
  | none=>rw [h1] at h;cases h
  | some g =>
   rw [h1] at h;rw [ih g l h,tN h1];simp [or_assoc]
theorem vU (args:List (List Nat)) (s:Nat):∀ f l,bO aM f args=some l->(up l s ↔ up f s/\∀ a∈args,up a s):=by
 induction args with
 | nil=>intro f l h;cases h;simp
 | cons a args ih =>
  intro f l h;rw [kD] at h;cases h1:aM f a with
  | none=>rw [h1] at h;cases h
  | some g =>
   rw [h1] at h;rw [ih g l h,nH h1];simp [and_assoc]
def Good (l:List Nat):Prop:=Dw l/\l.length<=1024
theorem jg:Good []:=⟨Ci,by simp⟩
theorem jh (x:Nat):Good [x]:=⟨Cj x,by simp⟩
theorem oA {a b l:List Nat} (h:bK a b=some l):Good l:=⟨xA h,(kL h).2⟩
theorem pW {a b l:List Nat} (h:aM a b=some l):Good l:=⟨rb h,(fM h).2⟩
theorem qo (op:List Nat->List Nat->Option (List Nat)) (hop:∀ a b l,op a b=some l->Good l) (args:List (List Nat)):∀ f l,Good f->bO op f args=some l->Good l:=by
 induction args with
 | nil=>intro f l hf h;cases h;exact hf
 | cons a args ih =>
  intro f l hf h;rw [kD] at h;cases h1:op f a with
  | none=>rw [h1] at h;cases h
  | some g=>rw [h1] at h;exact ih g l (hop _ _ _ h1) h
def cJ (vals:List Bool):List Int->Nat
 | []=>0
 | a :: l=>(if vals.getD a.toNat false then 1 else 0)+cJ vals l
def nr (kind k:Int) (t m:Nat):Bool :=
 if kind=0 then k == 1 else if kind=1 then t == 0 else if kind=2 then t == m else if kind=3 then decide (0<t) else if kind=4 then decide (k<=(t:Int)) else t % 2 == 1
def bu (V s:Nat) (nodes:List Nd):Nat->List Bool
 | 0=>(List.range V).map fun i=>s.testBit i
 | k+1=>bu V s nodes k++[nr (nodes.getD k bz).kind (nodes.getD k bz).k (cJ (bu V s nodes k) (nodes.getD k bz).args) (nodes.getD k bz).args.length]
def fH (V s:Nat) (nodes:List Nd):List Bool:=bu V s nodes nodes.length
theorem gC (V s:Nat) (nodes:List Nd) (k:Nat):(bu V s nodes k).length=V+k:=by
 induction k with
 | zero=>simp [bu]
 | succ k ih=>unfold bu;simp [ih];omega
theorem gX (V s:Nat) (nodes:List Nd) (j:Nat):∀ k i,i<V+j->j<=k->(bu V s nodes k).getD i false=(bu V s nodes j).getD i false:=by
 intro k;induction k with
 | zero =>
      intro i hi hj;have:j=0:=by omega
      subst this;rfl
 | succ k ih =>
  intro i hi hj;by_cases e:j=k+1
  ·subst e;rfl
  ·rw [<-ih i hi (by omega)];show (bu V s nodes k++_).getD i false=_;rw [List.getD_eq_getElem?_getD,List.getElem?_append_left (by rw [gC];omega),<-List.getD_eq_getElem?_getD]
theorem gW (V s:Nat) (nodes:List Nd) (k i:Nat) (hi:i<V):(bu V s nodes k).getD i false=s.testBit i:=by
 rw [gX V s nodes 0 k i (by omega) (by omega)];simp [bu,List.getD_eq_getElem?_getD,hi]
theorem BR (vals:List Bool) (a:List Int):cJ vals a<=a.length:=by
 induction a with
 | nil=>simp [cJ]
 | cons x a ih=>simp only [cJ,List.length_cons];split <;> omega
theorem tM (v1 v2:List Bool) (a:List Int) (h:∀ x∈a,v1.getD x.toNat false=v2.getD x.toNat false):cJ v1 a=cJ v2 a:=by
 induction a with
 | nil=>rfl
 | cons x a ih=>simp only [cJ];rw [h x (List.mem_cons_self ..),ih fun y hy=>h y (List.mem_cons_of_mem _ hy)]
noncomputable def pS (s:Nat):List (List Nat)->Nat
 | []=>0
 | f :: l=>(open Classical in if up f s then 1 else 0)+pS s l
theorem BS (s:Nat) (a:List (List Nat)):pS s a<=a.length:=by
 induction a with
 | nil=>simp [pS]
 | cons x a ih=>simp only [pS,List.length_cons];split <;> omega
theorem Da (s:Nat) (a:List (List Nat)):0<pS s a ↔ ∃ f∈a,up f s:=by
 induction a with
 | nil=>simp [pS]
 | cons x a ih =>
  simp only [pS,List.mem_cons];by_cases h:up x s
  ·rw [if_pos h];exact ⟨fun _=>⟨x,.inl rfl,h⟩,fun _=>by omega⟩
  ·rw [if_neg h,Nat.zero_add,ih];exact ⟨fun ⟨f,hf,h1⟩=>⟨f,.inr hf,h1⟩,fun ⟨f,hf,h1⟩=>hf.elim (fun e=>absurd (e ▸ h1) h) fun hf=>⟨f,hf,h1⟩⟩
theorem C' (s:Nat) (a:List (List Nat)):pS s a=a.length ↔ ∀ f∈a,up f s:=by
 induction a with
 | nil=>simp [pS]
 | cons x a ih =>
  simp only [pS,List.length_cons,List.mem_cons];have:=BS s a;by_cases h:up x s
  ·rw [if_pos h];constructor
   ·intro e f hf;rcases hf with rfl | hf
    ·exact h
    ·exact ih.1 (by omega) f hf
   ·intro e;have:=ih.2 fun f hf=>e f (.inr hf)
    omega
  ·rw [if_neg h];constructor
   ·intro e;omega
   ·intro e;exact absurd (e x (.inl rfl)) h
theorem xf (Y s:Nat):aZ (2^Y) s=s.testBit Y:=by
 rw [Bool.eq_iff_iff,a_];constructor
 ·intro h;exact h Y (by simp)
 ·intro h i hi;simp [Nat.testBit_two_pow] at hi;subst hi;exact h
theorem lC (args:List Int):∀ (m:List Bool) (i:Nat),m.getD i false=true->(bR m args).getD i false=true:=by
 induction args with
 | nil=>intro m i h;exact h
 | cons a l ih =>
  intro m i h;refine ih (m.set a.toNat true) i ?_;rw [List.getD_eq_getElem?_getD] at h⊢;by_cases e:a.toNat=i
  ·subst e;by_cases hl:a.toNat<m.length
   ·rw [List.getElem?_set_self hl];rfl
   ·rw [List.getElem?_eq_none (by omega)] at h;cases h
  ·rw [List.getElem?_set_ne e];exact h
theorem sL (args:List Int):∀ (m:List Bool) (a:Int),a∈args->a.toNat<m.length->(bR m args).getD a.toNat false=true:=by
 induction args with
 | nil=>intro m a h;cases h
 | cons x l ih =>
  intro m a ha hl;rcases List.mem_cons.1 ha with e | e
  ·subst e;refine lC l (m.set a.toNat true) a.toNat ?_;rw [List.getD_eq_getElem?_getD,List.getElem?_set_self hl];rfl
  ·exact ih (m.set x.toNat true) a e (by simpa using hl)
theorem pX (args:List Int):∀ (m:List Bool) (i:Nat),(∀ a∈args,a.toNat≠i)->(bR m args).getD i false=m.getD i false:=by
 induction args with
 | nil=>intro m i _;rfl
 | cons a l ih =>
  intro m i h;rw [show bR m (a :: l)=bR (m.set a.toNat true) l from rfl,ih (m.set a.toNat true) i fun x hx=>h x (List.mem_cons_of_mem _ hx)];rw [List.getD_eq_getElem?_getD,List.getElem?_set_ne (h a (List.mem_cons_self ..)),<-List.getD_eq_getElem?_getD]
theorem eB (V:Nat) (nodes:List Nd):∀ k m i,m.getD i false=true->(ct V nodes k m).getD i false=true:=by
 intro k;induction k with
 | zero=>intro m i h;exact h
 | succ k ih =>
  intro m i h;unfold ct;refine ih _ i ?_;split
  ·exact lC _ _ _ h
  ·exact h
theorem qY (V:Nat) (nodes:List Nd) (hargs:∀ i (h:i<nodes.length),∀ a∈nodes[i].args,0<=a/\a<(V:Int)+i):∀ k m i,k<=nodes.length->k<=i->(ct V nodes k m).getD (V+i) false=m.getD (V+i) false:=by
 intro k;induction k with
 | zero=>intro m i _ _;rfl
 | succ k ih =>
  intro m i hk hi;unfold ct;rw [ih _ i (by omega) (by omega)];split
  ·refine pX _ _ _ fun a ha e=>?_
   rw [show nodes.getD k bz=nodes[k] by simp [List.getD_eq_getElem?_getD,show k<nodes.length by omega]] at ha;have:=hargs k (by omega) a ha;omega
  ·rfl
theorem n_ (V:Nat) (nodes:List Nd) (hargs:∀ i (h:i<nodes.length),∀ a∈nodes[i].args,0<=a/\a<(V:Int)+i):∀ k m,k<=nodes.length->m.length=V+nodes.length ->
  ∀ i (_:i<k) (h:i<nodes.length),(ct V nodes k m).getD (V+i) false=true->∀ a∈nodes[i].args,(ct V nodes k m).getD a.toNat false=true:=by
 intro k;induction k with
 | zero=>intro m _ _ i hi;omega
 | succ k ih =>
  intro m hk hm i hi h hmark a ha;have hnd:nodes.getD k bz=nodes[k]:=by simp [List.getD_eq_getElem?_getD,show k<nodes.length by omega]
  unfold ct at hmark⊢;by_cases e:i=k
  ·subst e;have h2:=qY V nodes hargs i (if m.getD (V+i) false then bR m (nodes.getD i bz).args else m) i (by omega) (Nat.le_refl _);rw [h2] at hmark
   have hmi:m.getD (V+i) false=true:=by
    by_cases hb:m.getD (V+i) false=true
    ·exact hb
    ·rw [if_neg hb] at hmark;exact hmark
   refine eB V nodes i _ _ ?_;rw [if_pos hmi,hnd];have:=hargs i h a ha;exact sL _ m a ha (by omega)
  ·exact ih (if m.getD (V+k) false then bR m (nodes.getD k bz).args else m) (by omega) (by split;rw [fE,hm];exact hm) i (by omega) h hmark a ha
theorem cZ (V T:Nat) (f:Fm) (hok:Ok f V T):∀ i (hi:i<f.nodes.length),(aR V T f.nodes).getD (V+i) false=true->∀ a∈f.nodes[i].args,(aR V T f.nodes).getD a.toNat false=true:=by
 intro i hi h a ha;exact n_ V f.nodes hok.args f.nodes.length _ (Nat.le_refl _) (by simp) i hi hi h a ha
def Fw (V e:Nat) (a:Int):Int:=if a=e then V else if a<V then a else a+1
def FT (V e:Nat) (x:Nd):Nd:=⟨x.kind,x.k,x.args.map (Fw V e)⟩
def Gd (V e:Nat) (k:Int) (f:Fm) (T:Nat):Fm:=⟨V,⟨0,k,[]⟩ :: f.nodes.map (FT V e),Fw V e T⟩
def Fd (s e:Nat) (b:Bool):Nat:=if b then s ||| 2^e else bk s (2^e)
theorem xO (l:List Bool) (x:Bool) (i:Nat) (h:i=l.length):(l++[x]).getD i false=x:=by subst h;simp [List.getD_eq_getElem?_getD]
def Es (l:List Nat) (fl wk:Nat):List Nat:=aP ((l.filter fun s=>s &&& wk == 0).map fun s=>bk s fl)
theorem dA (a b i:Nat):(bk a b).testBit i=(a.testBit i&&!b.testBit i):=by
 unfold bk;rw [Nat.testBit_xor,Nat.testBit_and];cases a.testBit i <;> cases b.testBit i <;> rfl
def cond (V:Nat) (a:Int):Nat:=if a<V then 2^a.toNat else 2^(24+(a - V).toNat)
def bo (V r:Nat) (a:Int):Nat:=r ||| cond V a
def aX (V:Nat):List Int->Nat->Nat->List Nat
 | [],k,r=>if k=0 then [r] else []
 | a :: l,k,r=>if k=0 then [r] else aX V l (k - 1) (bo V r a)++aX V l k r
def dV (V:Nat) (x:Nd) (i r:Nat):List Nat :=
 if x.kind=0 then (if x.k=1 then [bk r (2^(24+i))] else [])
 else if x.kind=2 then [x.args.foldl (bo V) (bk r (2^(24+i)))]
 else if x.kind=3 then x.args.map (bo V (bk r (2^(24+i))))
 else aX V x.args x.k.toNat (bk r (2^(24+i)))
def ug (V:Nat) (x:Nd) (i r:Nat):List Nat:=if r.testBit (24+i) then dV V x i r else [r]
def cO (V:Nat) (x:Nd) (i:Nat) (R:List Nat):List Nat:=R.flatMap (ug V x i)
def dq (V:Nat) (nodes:List Nd):Nat->List Nat->Option (List Nat × List Nat)
 | 0,R=>some (R,[])
 | i+1,R =>
  if R.any (fun r=>r.testBit (24+i))=true then
   if (cO V (nodes.getD i bz) i R).length<=4096 then
    if (aP (cO V (nodes.getD i bz) i R)).length<=1024 then (dq V nodes i (aP (cO V (nodes.getD i bz) i R))).map fun p=>(p.1,(aP (cO V (nodes.getD i bz) i R)).length :: p.2)
    else none
   else none
  else dq V nodes i R
def ki (V T:Nat) (nodes:List Nd):Option (List Nat × List Nat):=dq V nodes nodes.length [cond V T]
def pJ (P:Nat->Prop) (r:Nat):Prop:=∀ i,r.testBit i=true->P i
def upP (R:List Nat) (P:Nat->Prop):Prop:=∃ r∈R,pJ P r
theorem rQ (P:Nat->Prop) (a b:Nat):pJ P (a ||| b) ↔ pJ P a/\pJ P b:=by
 unfold pJ;constructor
 ·intro h;exact ⟨fun i hi=>h i (by simp [hi]),fun i hi=>h i (by simp [hi])⟩
 ·rintro ⟨h1,h2⟩ i hi;simp at hi;exact hi.elim (h1 i) (h2 i)
theorem xi (P:Nat->Prop) (m:Nat):pJ P (2^m) ↔ P m:=by
 unfold pJ;constructor
 ·intro h;exact h m (by simp)
 ·intro h i hi;simp [Nat.testBit_two_pow] at hi;subst hi;exact h
theorem CU {P:Nat->Prop} {a b:Nat} (h:aZ a b=true) (hb:pJ P b):pJ P a:=fun i hi=>hb i (a_.1 h i hi)
theorem yU (P:Nat->Prop) (r m:Nat) (hr:r.testBit m=true):pJ P r ↔ pJ P (bk r (2^m))/\P m:=by
 unfold pJ;constructor
 ·intro h;refine ⟨fun i hi=>?_,h m hr⟩;rw [dA] at hi;simp at hi;exact h i hi.1
 ·rintro ⟨h1,h2⟩ i hi;by_cases e:i=m
  ·subst e;exact h2
  ·refine h1 i ?_;rw [dA,hi,Nat.testBit_two_pow];simp [Ne.symm e]
theorem vR (P:Nat->Prop) (a b:List Nat):upP (a++b) P ↔ upP a P\/upP b P:=by
 unfold upP;constructor
 ·rintro ⟨t,h,h2⟩;exact (List.mem_append.1 h).elim (fun h=>.inl ⟨t,h,h2⟩) fun h=>.inr ⟨t,h,h2⟩
 ·rintro (⟨t,h,h2⟩ | ⟨t,h,h2⟩)
  ·exact ⟨t,List.mem_append.2 (.inl h),h2⟩
  ·exact ⟨t,List.mem_append.2 (.inr h),h2⟩
theorem BU (P:Nat->Prop) (l:List Nat):upP (aP l) P ↔ upP l P:=by
 constructor
 ·rintro ⟨t,ht,h⟩;exact ⟨t,gd ht,h⟩
 ·rintro ⟨t,ht,h⟩;obtain ⟨y,hy,h2⟩:=ou l _ t (Nat.le_refl _) ht;exact ⟨y,hy,CU h2 h⟩
theorem jP (P:Nat->Prop) (r:Nat):upP [r] P ↔ pJ P r:=by
 unfold upP;simp
def zy (V:Nat) (P:Nat->Prop) (vals:List Bool) (args:List Int):Prop:=∀ a∈args,(pJ P (cond V a) ↔ vals.getD a.toNat false=true)
theorem vS (V:Nat) (P:Nat->Prop) (vals:List Bool):∀ (args:List Int) (k r:Nat),zy V P vals args->(upP (aX V args k r) P ↔ pJ P r/\k<=cJ vals args):=by
 intro args;induction args with
 | nil =>
  intro k r _;unfold aX cJ;by_cases h:k=0
  ·rw [if_pos h,jP];simp [h]
  ·rw [if_neg h];constructor
   ·rintro ⟨t,ht,_⟩;cases ht
   ·rintro ⟨_,h2⟩;omega
 | cons a l ih =>
  intro k r hs;have hs':zy V P vals l:=fun x hx=>hs x (List.mem_cons_of_mem _ hx)
  have ha:=hs a (List.mem_cons_self ..);unfold aX cJ;by_cases h:k=0
  ·rw [if_pos h,jP];simp [h]
  ·rw [if_neg h,vR,ih (k - 1) (bo V r a) hs',ih k r hs'];unfold bo;rw [rQ,ha];by_cases hv:vals.getD a.toNat false=true
   ·rw [if_pos hv];constructor
    ·rintro (⟨⟨h1,_⟩,h2⟩ | ⟨h1,h2⟩)
     ·exact ⟨h1,by omega⟩
     ·exact ⟨h1,by omega⟩
    ·rintro ⟨h1,h2⟩;exact .inl ⟨⟨h1,hv⟩,by omega⟩
   ·rw [if_neg hv];constructor
    ·rintro (⟨⟨_,h1⟩,_⟩ | ⟨h1,h2⟩)
     ·exact absurd h1 hv
     ·exact ⟨h1,by omega⟩
    ·rintro ⟨h1,h2⟩;exact .inr ⟨h1,by omega⟩
theorem zh (vals:List Bool) (args:List Int):cJ vals args=args.length ↔ ∀ a∈args,vals.getD a.toNat false=true:=by
 induction args with
 | nil=>simp [cJ]
 | cons a l ih =>
  have:=BR vals l;simp only [cJ,List.length_cons,List.mem_cons,forall_eq_or_imp];by_cases h:vals.getD a.toNat false=true
  ·rw [if_pos h,<-ih];constructor
   ·intro e;exact ⟨h,by omega⟩
   ·intro e;omega
  ·rw [if_neg h];constructor
   ·intro e;omega
   ·intro e;exact absurd e.1 h
theorem zi (vals:List Bool) (args:List Int):0<cJ vals args ↔ ∃ a∈args,vals.getD a.toNat false=true:=by
 induction args with
 | nil=>simp [cJ]
 | cons a l ih =>
  simp only [cJ,List.mem_cons,exists_eq_or_imp,<-ih];by_cases h:vals.getD a.toNat false=true
  ·rw [if_pos h];exact ⟨fun _=>.inl h,fun _=>by omega⟩
  ·rw [if_neg h];exact ⟨fun e=>.inr (by omega),fun e=>e.elim (fun e=>absurd e h) fun e=>by omega⟩
theorem BA (V:Nat) (P:Nat->Prop) (args:List Int):∀ r,pJ P (args.foldl (bo V) r) ↔ pJ P r/\∀ a∈args,pJ P (cond V a):=by
 induction args with
 | nil=>intro r;simp
 | cons a l ih =>
  intro r;show pJ P (l.foldl (bo V) (bo V r a)) ↔ _;rw [ih,bo,rQ];simp [and_assoc]
theorem vT (V:Nat) (P:Nat->Prop) (vals:List Bool) (x:Nd) (i r:Nat) (hs:zy V P vals x.args) (hk:x.kind=0\/x.kind=2\/x.kind=3\/x.kind=4) (h4:x.kind=4->0<=x.k) :
  upP (dV V x i r) P ↔ pJ P (bk r (2^(24+i)))/\nr x.kind x.k (cJ vals x.args) x.args.length=true:=by
 unfold dV nr;rcases hk with hk | hk | hk | hk
 ·simp only [hk,if_true];by_cases e:x.k=1
  ·rw [if_pos e,jP];simp [e]
  ·rw [if_neg e];simp only [beq_iff_eq,e,and_false,iff_false];rintro ⟨t,ht,_⟩;cases ht
 ·simp only [hk,show ¬ (2:Int)=0 by decide,show ¬ (2:Int)=1 by decide,if_true,if_false];rw [jP,BA,beq_iff_eq,zh];exact and_congr Iff.rfl ⟨fun h a ha=>(hs a ha).1 (h a ha),fun h a ha=>(hs a ha).2 (h a ha)⟩
 ·simp only [hk,show ¬ (3:Int)=0 by decide,show ¬ (3:Int)=1 by decide,show ¬ (3:Int)=2 by decide,if_true,if_false];rw [decide_eq_true_eq,zi];constructor
  ·rintro ⟨t,ht,h⟩;obtain ⟨a,ha,rfl⟩:=List.mem_map.1 ht;have:=(rQ P _ _).1 h;exact ⟨this.1,a,ha,(hs a ha).1 this.2⟩
  ·rintro ⟨h,a,ha,h2⟩;exact ⟨_,List.mem_map.2 ⟨a,ha,rfl⟩,(rQ P _ _).2 ⟨h,(hs a ha).2 h2⟩⟩
 ·simp only [hk,show ¬ (4:Int)=0 by decide,show ¬ (4:Int)=1 by decide,show ¬ (4:Int)=2 by decide,show ¬ (4:Int)=3 by decide,if_true,if_false];rw [vS V P vals x.args _ _ hs,decide_eq_true_eq];have:=h4 hk;exact and_congr Iff.rfl (by omega)
theorem BT (V:Nat) (P:Nat->Prop) (vals:List Bool) (x:Nd) (i:Nat) (R:List Nat) (h:∀ r∈R,r.testBit (24+i)=true->zy V P vals x.args/\(x.kind=0\/x.kind=2\/x.kind=3\/x.kind=4)/\(x.kind=4->0<=x.k)/\(P (24+i) ↔ nr x.kind x.k (cJ vals x.args) x.args.length=true)) :
  upP (cO V x i R) P ↔ upP R P:=by
 unfold cO
 have one:∀ r∈R,(upP (ug V x i r) P ↔ pJ P r):=by
  intro r hr;unfold ug;by_cases hb:r.testBit (24+i)=true
  ·rw [if_pos hb];obtain ⟨h1,h2,h3,h4⟩:=h r hr hb;rw [vT V P vals x i r h1 h2 h3,<-h4,<-yU P r _ hb]
  ·rw [if_neg hb,jP]
 unfold upP;constructor
 ·rintro ⟨t,ht,hs⟩;obtain ⟨r,hr,hrt⟩:=List.mem_flatMap.1 ht;exact ⟨r,hr,(one r hr).1 ⟨t,hrt,hs⟩⟩
 ·rintro ⟨r,hr,hs⟩;obtain ⟨t,ht,h2⟩:=(one r hr).2 hs;exact ⟨t,List.mem_flatMap.2 ⟨r,hr,ht⟩,h2⟩
def aI (b r:Nat):Prop:=∀ j,r.testBit j=true->j<b
theorem qG {b m:Nat} (h:m<b):aI b (2^m):=fun j hj=>by
 simp [Nat.testBit_two_pow] at hj;omega
theorem gm {b x y:Nat} (h1:aI b x) (h2:aI b y):aI b (x ||| y):=fun j hj=>by
 simp at hj;exact hj.elim (h1 j) (h2 j)
theorem tw {b r:Nat} (h:aI (b+1) r):aI b (bk r (2^b)):=fun j hj=>by
 rw [dA,Nat.testBit_two_pow] at hj;simp at hj;have:=h j hj.1;omega
theorem gT {b c r:Nat} (h:aI b r) (hc:b<=c):aI c r:=fun j hj=>Nat.lt_of_lt_of_le (h j hj) hc
theorem gk {b r:Nat} (h:aI b r):r<2^b:=by
 apply Nat.lt_of_not_le;intro hr;obtain ⟨i,hi,hb⟩:=Nat.exists_ge_and_testBit_of_ge_two_pow hr;have:=h i hb;omega
theorem rN {b r:Nat} (h:r<2^b):aI b r:=fun j hj=>by
 apply Nat.lt_of_not_le;intro hb;rw [Nat.testBit_lt_two_pow (Nat.lt_of_lt_of_le h (Nat.pow_le_pow_right (by omega) hb))] at hj;cases hj
theorem dp {V m:Nat} {a:Int} (h:0<=a/\a<(V:Int)+m) (hV:V<=24):aI (24+m) (cond V a):=by
 unfold cond;split
 ·exact qG (by omega)
 ·exact qG (by omega)
theorem vv {V b:Nat} (args:List Int) (h:∀ a∈args,aI b (cond V a)):∀ r,aI b r->aI b (args.foldl (bo V) r):=by
 induction args with
 | nil=>intro r hr;exact hr
 | cons a l ih=>intro r hr;exact ih (fun x hx=>h x (List.mem_cons_of_mem _ hx)) _ (gm hr (h a (List.mem_cons_self ..)))
theorem rL {V b:Nat} (args:List Int):(∀ a∈args,aI b (cond V a))->∀ k r,aI b r->∀ t∈aX V args k r,aI b t:=by
 induction args with
 | nil =>
  intro _ k r hr t ht;unfold aX at ht;split at ht
  ·simp at ht;subst ht;exact hr
  ·cases ht
 | cons a l ih =>
  intro h k r hr t ht;unfold aX at ht;split at ht
  ·simp at ht;subst ht;exact hr
  ·have h':∀ x∈l,aI b (cond V x):=fun x hx=>h x (List.mem_cons_of_mem _ hx)
   rcases List.mem_append.1 ht with ht | ht
   ·exact ih h' _ _ (gm hr (h a (List.mem_cons_self ..))) t ht
   ·exact ih h' _ _ hr t ht
theorem rM {V i r:Nat} {x:Nd} (hV:V<=24) (ha:∀ a∈x.args,0<=a/\a<(V:Int)+i) (hr:aI (24+i+1) r):∀ t∈dV V x i r,aI (24+i) t:=by
 have h':∀ a∈x.args,aI (24+i) (cond V a):=fun a h=>dp (ha a h) hV
 have hd:=tw hr;intro t ht;unfold dV at ht;split at ht
 ·split at ht
  ·simp at ht;subst ht;exact hd
  ·cases ht
 ·split at ht
  ·simp at ht;subst ht;exact vv _ h' _ hd
  ·split at ht
   ·obtain ⟨a,h1,rfl⟩:=List.mem_map.1 ht;exact gm hd (h' a h1)
   ·exact rL _ h' _ _ hd t ht
theorem rowLt_less {b r:Nat} (h:aI (b+1) r) (hb:r.testBit b=false):aI b r:=fun j hj=>by
 have:=h j hj;by_cases e:j=b
 ·subst e;rw [hb] at hj;cases hj
 ·omega
theorem pC {V i:Nat} {x:Nd} {R:List Nat} (hV:V<=24) (ha:∀ a∈x.args,0<=a/\a<(V:Int)+i) (hR:∀ r∈R,aI (24+i+1) r):∀ t∈cO V x i R,aI (24+i) t:=by
 intro t ht;obtain ⟨r,hr,ht⟩:=List.mem_flatMap.1 ht;unfold ug at ht;split at ht
 ·exact rM hV ha (hR r hr) t ht
 ·rename_i h;simp at ht;subst ht;exact rowLt_less (hR t hr) (by simpa using h)
theorem vz {i:Nat} {R:List Nat} (hR:∀ r∈R,aI (24+(i+1)) r) (h:¬ R.any (fun r=>r.testBit (24+i))=true):∀ r∈R,aI (24+i) r:=fun r hr =>
 rowLt_less (b:=24+i) (hR r hr) (by
  cases hb:r.testBit (24+i) with
  | false=>rfl
  | true=>exact absurd (List.any_eq_true.2 ⟨r,hr,hb⟩) h)
def bU (V:Nat) (mark:List Bool) (r:Nat):Prop:=∀ j,r.testBit (24+j)=true->mark.getD (V+j) false=true
theorem mB {V:Nat} {mark:List Bool} {x y:Nat} (h1:bU V mark x) (h2:bU V mark y):bU V mark (x ||| y):=fun j hj=>by
 simp at hj;exact hj.elim (h1 j) (h2 j)
theorem uK {V:Nat} {mark:List Bool} {x m:Nat} (h:bU V mark x):bU V mark (bk x m):=fun j hj=>by
 rw [dA] at hj;simp at hj;exact h j hj.1
theorem jn {V:Nat} {mark:List Bool} {a:Int} (h0:0<=a) (hV:V<=24) (h:mark.getD a.toNat false=true):bU V mark (cond V a):=by
 intro j hj;unfold cond at hj;split at hj
 ·simp [Nat.testBit_two_pow] at hj;omega
 ·simp [Nat.testBit_two_pow] at hj;rw [show V+j=a.toNat by omega];exact h
theorem sM {V:Nat} {mark:List Bool} (args:List Int) (h:∀ a∈args,bU V mark (cond V a)):∀ r,bU V mark r->bU V mark (args.foldl (bo V) r):=by
 induction args with
 | nil=>intro r hr;exact hr
 | cons a l ih=>intro r hr;exact ih (fun x hx=>h x (List.mem_cons_of_mem _ hx)) _ (mB hr (h a (List.mem_cons_self ..)))
theorem pY {V:Nat} {mark:List Bool} (args:List Int):(∀ a∈args,bU V mark (cond V a))->∀ k r,bU V mark r->∀ t∈aX V args k r,bU V mark t:=by
 induction args with
 | nil =>
  intro _ k r hr t ht;unfold aX at ht;split at ht
  ·simp at ht;subst ht;exact hr
  ·cases ht
 | cons a l ih =>
  intro h k r hr t ht;unfold aX at ht;split at ht
  ·simp at ht;subst ht;exact hr
  ·have h':∀ x∈l,bU V mark (cond V x):=fun x hx=>h x (List.mem_cons_of_mem _ hx)
   rcases List.mem_append.1 ht with ht | ht
   ·exact ih h' _ _ (mB hr (h a (List.mem_cons_self ..))) t ht
   ·exact ih h' _ _ hr t ht
theorem nk {V i:Nat} {mark:List Bool} {x:Nd} {R:List Nat} (hV:V<=24) (hR:∀ r∈R,bU V mark r)
  (ha:mark.getD (V+i) false=true->∀ a∈x.args,0<=a/\mark.getD a.toNat false=true):∀ t∈cO V x i R,bU V mark t:=by
 intro t ht;obtain ⟨r,hr,ht⟩:=List.mem_flatMap.1 ht;unfold ug at ht;split at ht
 ·rename_i hb;have hm:=ha (hR r hr i hb);have h':∀ a∈x.args,bU V mark (cond V a):=fun a h=>jn (hm a h).1 hV (hm a h).2
  have hd:bU V mark (bk r (2^(24+i))):=uK (hR r hr);unfold dV at ht;split at ht
  ·split at ht
   ·simp at ht;subst ht;exact hd
   ·cases ht
  ·split at ht
   ·simp at ht;subst ht;exact sM _ h' _ hd
   ·split at ht
    ·obtain ⟨a,h1,rfl⟩:=List.mem_map.1 ht;exact mB hd (h' a h1)
    ·exact pY _ h' _ _ hd t ht
 ·simp at ht;subst ht;exact hR t hr
def fL (V s:Nat) (nodes:List Nd) (i:Nat):Prop:=if i<24 then s.testBit i=true else (fH V s nodes).getD (V+(i - 24)) false=true
theorem qK {V T:Nat} {f:Fm} (hok:Ok f V T) (s:Nat) (args:List Int) (h:∀ a∈args,0<=a):zy V (fL V s f.nodes) (fH V s f.nodes) args:=by
 intro a ha;have h0:=h a ha;have hV:=hok.v24;unfold cond;by_cases hlt:a<V
 ·rw [if_pos hlt,xi];unfold fL;rw [if_pos (by omega)];unfold fH;rw [gW V s f.nodes _ a.toNat (by omega)]
 ·rw [if_neg hlt,xi];unfold fL;rw [if_neg (by omega),show V+(24+(a - (V:Int)).toNat - 24)=a.toNat by omega]
theorem uD {V T:Nat} {f:Fm} (hok:Ok f V T) (s i:Nat) (hi:i<f.nodes.length):fL V s f.nodes (24+i) ↔ nr f.nodes[i].kind f.nodes[i].k (cJ (fH V s f.nodes) f.nodes[i].args) f.nodes[i].args.length=true:=by
 have hnd:f.nodes.getD i bz=f.nodes[i]:=by simp [List.getD_eq_getElem?_getD,hi]
 unfold fL;rw [if_neg (by omega),show V+(24+i - 24)=V+i by omega];unfold fH;rw [gX V s f.nodes (i+1) f.nodes.length (V+i) (by omega) (by omega)];show (bu V s f.nodes i++[_]).getD (V+i) false=true ↔ _
 rw [xO _ _ _ (gC V s f.nodes i).symm,hnd,
  tM (bu V s f.nodes i) (bu V s f.nodes f.nodes.length) f.nodes[i].args fun x hx=>by
   have:=hok.args i hi x hx;exact (gX V s f.nodes i f.nodes.length x.toNat (by omega) (by omega)).symm]
theorem BV {V T:Nat} {f:Fm} (hok:Ok f V T) (hs:fO V T f=true) (s:Nat):∀ i R p,i<=f.nodes.length->(∀ r∈R,bU V (aR V T f.nodes) r)->dq V f.nodes i R=some p->(upP p.1 (fL V s f.nodes) ↔ upP R (fL V s f.nodes)):=by
 intro i;induction i with
 | zero=>intro R p _ _ h;cases h;exact Iff.rfl
 | succ i ih =>
  intro R p hi hm h;have hil:i<f.nodes.length:=by omega
  have hnd:f.nodes.getD i bz=f.nodes[i]:=by simp [List.getD_eq_getElem?_getD,hil]
  unfold dq at h;rw [hnd] at h;split at h
  ·split at h
   ·split at h
    ·cases h1:dq V f.nodes i (aP (cO V f.nodes[i] i R)) with
     | none=>rw [h1] at h;cases h
     | some q =>
      rw [h1] at h;cases h
      have hm2:∀ r∈aP (cO V f.nodes[i] i R),bU V (aR V T f.nodes) r:=fun r hr =>
       nk hok.v24 hm (fun hk a ha=>⟨(hok.args i hil a ha).1,cZ V T f hok i hil hk a ha⟩) r (gd hr)
      rw [ih _ q (by omega) hm2 h1,BU];refine BT V _ (fH V s f.nodes) f.nodes[i] i R fun r hr hb=>?_
      have hmk:=hm r hr i hb;have hkd:=jF hok hs i hil hmk;refine ⟨qK hok s _ fun a ha=>(hok.args i hil a ha).1,hkd,fun h4=>?_,uD hok s i hil⟩;have:=hok.arity i hil;unfold jQ at this;rw [if_neg (by omega),if_pos h4] at this;split at this
      ·omega
      ·cases this
    ·cases h
   ·cases h
  ·exact ih R p (by omega) hm h
theorem vw {V T:Nat} {f:Fm} (hok:Ok f V T):∀ i R p,i<=f.nodes.length->(∀ r∈R,aI (24+i) r)->dq V f.nodes i R=some p->∀ r∈p.1,aI 24 r:=by
 intro i;induction i with
 | zero=>intro R p _ hR h;cases h;exact hR
 | succ i ih =>
  intro R p hi hR h;have hil:i<f.nodes.length:=by omega
  have hnd:f.nodes.getD i bz=f.nodes[i]:=by simp [List.getD_eq_getElem?_getD,hil]
  unfold dq at h;rw [hnd] at h;split at h
  ·split at h
   ·split at h
    ·cases h1:dq V f.nodes i (aP (cO V f.nodes[i] i R)) with
     | none=>rw [h1] at h;cases h
     | some q =>
      rw [h1] at h;cases h;exact ih _ q (by omega) (fun r hr=>pC hok.v24 (hok.args i hil) hR r (gd hr)) h1
    ·cases h
   ·cases h
  ·rename_i hany;exact ih R p (by omega) (vz hR hany) h
theorem zO (V:Nat) (nodes:List Nd):∀ i R p,Good R->dq V nodes i R=some p->Good p.1:=by
 intro i;induction i with
 | zero=>intro R p hR h;cases h;exact hR
 | succ i ih =>
  intro R p hR h;unfold dq at h;split at h
  ·split at h
   ·split at h
    ·cases h1:dq V nodes i (aP (cO V (nodes.getD i bz) i R)) with
     | none=>rw [h1] at h;cases h
     | some q =>
      rw [h1] at h;cases h;exact ih _ q ⟨oi _,by assumption⟩ h1
    ·cases h
   ·cases h
  ·exact ih R p hR h
theorem mT {V T:Nat} {f:Fm} (hok:Ok f V T) (hs:fO V T f=true) {p:List Nat × List Nat} (h:ki V T f.nodes=some p) :
  Good p.1/\(∀ r∈p.1,Mk r)/\∀ s,up p.1 s ↔ (fH V s f.nodes).getD T false=true:=by
 have hT:=hok.tlt;have hV:=hok.v24
 have hlt:∀ r∈[cond V (T:Int)],aI (24+f.nodes.length) r:=by
  intro r hr;simp at hr;subst hr;exact dp (by omega) hV
 have hmk:∀ r∈[cond V (T:Int)],bU V (aR V T f.nodes) r:=by
  intro r hr;simp at hr;subst hr;refine jn (by omega) hV ?_;unfold aR;refine eB V f.nodes _ _ _ ?_;rw [List.getD_eq_getElem?_getD,Int.toNat_natCast,List.getElem?_set_self (by simp;omega)];rfl
 have h24:=vw hok _ _ p (Nat.le_refl _) hlt h;refine ⟨zO V f.nodes _ _ p (jh _) h,fun r hr=>gk (h24 r hr),fun s=>?_⟩;have hup:=BV hok hs s _ _ p (Nat.le_refl _) hmk h
 have e1:up p.1 s ↔ upP p.1 (fL V s f.nodes):=by
  unfold up upP
  have:∀ r∈p.1,(aZ r s=true ↔ pJ (fL V s f.nodes) r):=by
   intro r hr;rw [a_];unfold pJ fL;constructor
   ·intro h i hi;rw [if_pos (h24 r hr i hi)];exact h i hi
   ·intro h i hi;have:=h i hi;rw [if_pos (h24 r hr i hi)] at this;exact this
  exact ⟨fun ⟨r,hr,h⟩=>⟨r,hr,(this r hr).1 h⟩,fun ⟨r,hr,h⟩=>⟨r,hr,(this r hr).2 h⟩⟩
 rw [e1,hup,jP];have:=qK hok s [(T:Int)] (by simp) (T:Int) (by simp);rw [this];simp
theorem uG (l:List Nat):∀ (out done:List Nat),(done++l).Pairwise (fun a b=>pc a<=pc b)->out.Nodup->(∀ x∈out,x∈done)->(∀ x∈done,∃ t∈out,aZ t x=true)->(∀ x∈out,∀ y∈done,aZ y x=true->y=x) ->
  (l.foldl aG out).Nodup/\(∀ x∈l.foldl aG out,x∈done++l)/\(∀ x∈done++l,∃ t∈l.foldl aG out,aZ t x=true)/\∀ x∈l.foldl aG out,∀ y∈done++l,aZ y x=true->y=x:=by
 induction l with
 | nil=>intro out done _ h1 h2 h3 h4;simpa using ⟨h1,h2,h3,h4⟩
 | cons s l ih =>
  intro out done hp h1 h2 h3 h4;have hle:∀ x∈done,pc x<=pc s:=fun x hx=>(List.pairwise_append.1 hp).2.2 x hx s (List.mem_cons_self ..)
  have hp':((done++[s])++l).Pairwise (fun a b=>pc a<=pc b):=by simpa using hp
  have e:done++s :: l=(done++[s])++l:=by simp
  rw [e];show (l.foldl aG (aG out s)).Nodup/\_;by_cases hk:out.any (fun t=>aZ t s)=true
  ·rw [show (s :: l).foldl aG out=l.foldl aG out by show l.foldl aG (aG out s)=_;rw [show aG out s=out from if_pos hk],show aG out s=out from if_pos hk];obtain ⟨t,ht,hts⟩:=List.any_eq_true.1 hk;refine ih out (done++[s]) hp' h1 (fun x hx=>List.mem_append.2 (.inl (h2 x hx))) (fun x hx=>?_) fun x hx y hy hyx=>?_
   ·rcases List.mem_append.1 hx with hx | hx
    ·exact h3 x hx
    ·simp at hx;subst hx;exact ⟨t,ht,hts⟩
   ·rcases List.mem_append.1 hy with hy | hy
    ·exact h4 x hx y hy hyx
    ·simp at hy;subst hy;have:=h4 x hx t (h2 t ht) (eI hts hyx);subst this;exact gp hyx hts
  ·rw [show (s :: l).foldl aG out=l.foldl aG (out++[s]) by show l.foldl aG (aG out s)=_;rw [show aG out s=out++[s] from if_neg hk],show aG out s=out++[s] from if_neg hk];have hk':∀ t∈out,¬ aZ t s=true:=fun t ht h=>hk (List.any_eq_true.2 ⟨t,ht,h⟩)
   refine ih (out++[s]) (done++[s]) hp' ?_ (fun x hx=>?_) (fun x hx=>?_) fun x hx y hy hyx=>?_
   ·rw [List.nodup_append];refine ⟨h1,by simp,fun a ha b hb=>?_⟩;simp at hb;subst hb;intro e2;subst e2;exact hk' _ ha (df _)
   ·rcases List.mem_append.1 hx with hx | hx
    ·exact List.mem_append.2 (.inl (h2 x hx))
    ·exact List.mem_append.2 (.inr hx)
   ·rcases List.mem_append.1 hx with hx | hx
    ·obtain ⟨t,ht,h⟩:=h3 x hx;exact ⟨t,List.mem_append.2 (.inl ht),h⟩
    ·simp at hx;subst hx;exact ⟨x,by simp,df x⟩
   ·rcases List.mem_append.1 hx with hx' | hx
    ·rcases List.mem_append.1 hy with hy | hy
     ·exact h4 x hx' y hy hyx
     ·simp at hy;subst hy;exact (fF hyx).2 (by have:=(fF hyx).1;have:=hle x (h2 x hx');omega)
    ·simp at hx;subst hx;rcases List.mem_append.1 hy with hy | hy
     ·obtain ⟨t,ht,h⟩:=h3 y hy;exact absurd (eI h hyx) (hk' t ht)
     ·simp at hy;exact hy
theorem yf {l:List Nat} (h:l.Pairwise dP):l.Nodup:=h.imp fun {a b} hab e=>by subst e;exact dI a hab
theorem sZ {l r:List Nat} (h1:l.Nodup) (h2:r.Nodup) (h:∀ x,x∈l ↔ x∈r):l.Perm r:=(List.perm_ext_iff_of_nodup h1 h2).2 h
theorem uH {l F:List Nat} (hp:l.Perm F) (hs:l.Pairwise fun a b=>pc a<=pc b):(gI l).Perm (aP F):=by
 obtain ⟨h1,h2,h3,h4⟩:=uG l [] [] (by simpa using hs) (by simp) (by simp) (by simp) (by simp);refine sZ h1 (yf (gi F)) fun x=>?_
 rw [bS];simp only [List.nil_append] at h2 h3 h4;show x∈l.foldl aG [] ↔ _;constructor
 ·intro hx;exact ⟨hp.mem_iff.1 (h2 x hx),fun y hy hyx=>h4 x hx y (hp.mem_iff.2 hy) hyx⟩
 ·rintro ⟨hx,hmin⟩;obtain ⟨t,ht,htx⟩:=h3 x (hp.mem_iff.2 hx);have:=hmin t (hp.mem_iff.1 (h2 t ht)) htx;subst this;exact ht
theorem fX {V i:Nat} {x:Nd} {L R:List Nat} (h:L.Perm R):(cO V x i L).Perm (cO V x i R):=h.flatMap_right _
theorem mC {L R:List Nat} (h:L.Perm R):aP L=aP R:=uL _ _ fun _=>h.mem_iff
theorem qJ (V:Nat) (nodes:List Nd) (i:Nat) (R:List Nat):∀ m,i<=m->(∀ j,i<=j->j<m->R.any (fun r=>r.testBit (24+j))=false)->dq V nodes m R=dq V nodes i R:=by
 intro m;induction m with
 | zero =>
      intro h _;have:i=0:=by omega
      subst this;rfl
 | succ m ih =>
  intro h hj;by_cases e:i=m+1
  ·subst e;rfl
  ·rw [<-ih (by omega) fun j h1 h2=>hj j h1 (by omega)]
   conv=>lhs;unfold dq
   rw [if_neg (by rw [hj m (by omega) (by omega)];simp)]
theorem oV (a b:Nat) (ha:a<18446744073709551616) (hb:b<18446744073709551616):bits .or .u64 (a:Int) (b:Int)=((a ||| b:Nat):Int):=by
 have h:(BitVec.ofInt 64 (a:Int) ||| BitVec.ofInt 64 (b:Int)).toNat=a ||| b:=by rw [BitVec.toNat_or,br a ha,br b hb]
 show IntKind.u64.wrap (((BitVec.ofInt 64 (a:Int) ||| BitVec.ofInt 64 (b:Int)).toNat:Nat):Int)=_;rw [h];have:=Nat.or_lt_two_pow (n:=64) (x:=a) (y:=b) (by omega) (by omega);exact wrap_u64 _ (by omega)
theorem kt (a b:Nat) (ha:a<18446744073709551616) (hb:b<18446744073709551616):bits .andNot .u64 (a:Int) (b:Int)=((bk a b:Nat):Int):=by
 have h:(BitVec.ofInt 64 (a:Int) &&& ~~~ BitVec.ofInt 64 (b:Int)).toNat=bk a b:=by
  have e:BitVec.ofInt 64 (a:Int) &&& ~~~ BitVec.ofInt 64 (b:Int)=BitVec.ofInt 64 (a:Int) ^^^ (BitVec.ofInt 64 (a:Int) &&& BitVec.ofInt 64 (b:Int)):=by
   ext i hi
   simp only [BitVec.getElem_and,BitVec.getElem_not,BitVec.getElem_xor];cases (BitVec.ofInt 64 (a:Int))[i] <;> cases (BitVec.ofInt 64 (b:Int))[i] <;> rfl
  rw [e,BitVec.toNat_xor,BitVec.toNat_and,br a ha,br b hb];rfl
 show IntKind.u64.wrap (((BitVec.ofInt 64 (a:Int) &&& ~~~ BitVec.ofInt 64 (b:Int)).toNat:Nat):Int)=_;rw [h];have h2:bk a b<2^64:=Nat.xor_lt_two_pow (by omega) (Nat.lt_of_le_of_lt Nat.and_le_left (by omega));exact wrap_u64 _ (by omega)
theorem nU (i:Nat) (h:i<64):IntKind.u64.wrap ((2:Int)^i)=((2^i:Nat):Int):=by
 have h1:2^i<18446744073709551616:=Nat.lt_of_lt_of_le (Nat.pow_lt_pow_right (by omega) h:2^i<2^64) (by decide);have:=wrap_u64 (2^i) h1;rw [<-this];simp
theorem lL {i:Nat} (h:i<64):2^i<18446744073709551616:=Nat.lt_of_lt_of_le (Nat.pow_lt_pow_right (by omega) h:2^i<2^64) (by decide)
theorem A' {i:Nat} (h:i<24):2^i<16777216:=Nat.lt_of_lt_of_le (Nat.pow_lt_pow_right (by omega) h:2^i<2^24) (by decide)
theorem wK (l i:Nat) (hl:l<18446744073709551616):(bits .and .u64 ((l:Int) / 2^i) 1 == 1)=l.testBit i:=by
 have h1:(l:Int) / 2^i=((l / 2^i:Nat):Int):=by simp
 have h2:l / 2^i<18446744073709551616:=Nat.lt_of_le_of_lt (Nat.div_le_self _ _) hl;rw [h1,show (1:Int)=((1:Nat):Int) from rfl,dE _ _ h2 (by decide),Nat.and_one_is_mod,Nat.testBit_eq_decide_div_mod_eq,Bool.eq_iff_iff];simp;omega
theorem DL (e l h i:Nat) (hl:l<18446744073709551616) (hi:i<64) (w:World) :
  Calls Tryz.prog 127 #[.agg #[.int .i64 e,.int .u64 l,.int .u64 h],.int .i64 i] w fun e' w'=>e'=.returned (.bool (l.testBit i))/\ag w w':=by
 have q0:(i:Int) / 64=0:=by omega
 have q1:(i:Int) % 64=i:=by omega
 have q2:Int.tdiv (i:Int) 64=0:=by rw [Int.tdiv_eq_ediv_of_nonneg (by omega)];exact q0
 have q3:Int.tmod (i:Int) 64=i:=by rw [Int.tmod_eq_emod_of_nonneg (by omega)];exact q1
 have HB:=af (wK l i hl);go_enter Tryz.func127,Tryz.ntmps127;go_wp2;go_ret;exact ⟨by rw [<-HB.out];rfl,(ag.refl _).alloc _⟩
theorem DK (e l h j:Nat) (hl:h<18446744073709551616) (hj:j<64) (w:World) :
  Calls Tryz.prog 127 #[.agg #[.int .i64 e,.int .u64 l,.int .u64 h],.int .i64 (64+j:Nat)] w fun e' w'=>e'=.returned (.bool (h.testBit j))/\ag w w':=by
 obtain ⟨i,hi⟩:∃ i,i=64+j:=⟨_,rfl⟩;rw [<-hi];have q0:(i:Int) / 64=1:=by omega
 have q1:(i:Int) % 64=j:=by omega
 have q2:Int.tdiv (i:Int) 64=1:=by rw [Int.tdiv_eq_ediv_of_nonneg (by omega)];exact q0
 have q3:Int.tmod (i:Int) 64=j:=by rw [Int.tmod_eq_emod_of_nonneg (by omega)];exact q1
 have HB:=af (wK h j hl);clear hi;go_enter Tryz.func127,Tryz.ntmps127;go_wp2;go_ret;exact ⟨by rw [<-HB.out];rfl,(ag.refl _).alloc _⟩
theorem CQ (V:Nat) (h:V<=24):wrap64 ((2:Int)^V)=((2^V:Nat):Int):=by
 have h1:(2:Nat)^V<=2^24:=Nat.pow_le_pow_right (by omega) h;rw [show (2:Int)^V=((2^V:Nat):Int) by simp];generalize (2:Nat)^V=z at h1⊢;unfold wrap64;omega
theorem Dd (e l h a:Nat) (V:Nat) (v:Value) (T:Int) (hs:∃ a n c,v=.slice a n c) (he:e<16777216) (hV:V<=24) (ha:a<V) (w:World) :
  Calls Tryz.prog 125 #[.agg #[.int .i64 e,.int .u64 l,.int .u64 h],.agg #[.int .i64 V,v,.int .i64 T],.int .i64 a] w fun e' w'=>e'=.returned (.agg #[.int .i64 (e ||| 2^a:Nat),.int .u64 l,.int .u64 h])/\ag w w':=by
 obtain ⟨sa,n,c,rfl⟩:=hs;have h1:(a:Int)<(V:Int):=by omega
 have h2:¬ (a:Int)<0:=by omega
 have p1:=CQ a (by omega);have hp:=A' (show a<24 by omega);obtain ⟨z,hz⟩:∃ z,z=2^a:=⟨_,rfl⟩;rw [<-hz] at p1 hp⊢;have p2:=AK e z (by omega) (by omega);clear hz;obtain ⟨y,hy⟩:∃ y,y=e ||| z:=⟨_,rfl⟩
 rw [<-hy] at p2⊢;clear hy;go_enter Tryz.func125,Tryz.ntmps125;go_wp2;go_region;all_goals go_wp2
 all_goals exact bodyPost_ret (v:=.agg #[.int .i64 y,.int .u64 l,.int .u64 h]) (by simp [results,Tryz.results125,go_sem]) rfl ⟨rfl,by first | exact ((((ag.refl _).alloc _).alloc _).alloc _) | exact ((((ag.refl _).alloc _).alloc _).alloc _).drew⟩
theorem Df (e l h j:Nat) (V:Nat) (v:Value) (T:Int) (hs:∃ a n c,v=.slice a n c) (hl:l<18446744073709551616) (hV:V<=24) (hj:j<64) (w:World) (y:Nat) (hy:y=l ||| 2^j) :
  Calls Tryz.prog 125 #[.agg #[.int .i64 e,.int .u64 l,.int .u64 h],.agg #[.int .i64 V,v,.int .i64 T],.int .i64 (V+(j):Nat)] w fun e' w'=>e'=.returned (.agg #[.int .i64 e,.int .u64 y,.int .u64 h])/\ag w w':=by
 obtain ⟨sa,n,c,rfl⟩:=hs;obtain ⟨i,hi⟩:∃ i,i=j:=⟨_,rfl⟩;obtain ⟨a,ha⟩:∃ a,a=V+i:=⟨_,rfl⟩;rw [<-hi,<-ha];have h1:¬ (a:Int)<(V:Int):=by omega
 have h3:IntKind.i64.wrap ((a:Int) - (V:Int))=(i:Int):=by rw [IntKind.wrap_i64];omega
 have h4:(a:Int) - (V:Int)=(i:Int):=by omega
 have q0:(i:Int) / 64=0:=by omega
 have q1:(i:Int) % 64=j:=by omega
 have q2:Int.tdiv (i:Int) 64=0:=by rw [Int.tdiv_eq_ediv_of_nonneg (by omega)];exact q0
 have q3:Int.tmod (i:Int) 64=j:=by rw [Int.tmod_eq_emod_of_nonneg (by omega)];exact q1
 have q4:¬ (j:Int)<0:=by omega
 have p1:=nU j hj;have hp:=lL hj;obtain ⟨z,hz⟩:∃ z,z=2^j:=⟨_,rfl⟩;rw [<-hz] at p1 hp hy;have p2:=oV l z hl hp;rw [<-hy] at p2;clear hz hy hi ha;go_enter Tryz.func125,Tryz.ntmps125;go_wp2;go_region;all_goals go_wp2
 all_goals exact bodyPost_ret (v:=.agg #[.int .i64 e,.int .u64 y,.int .u64 h]) (by simp [results,Tryz.results125,go_sem]) rfl ⟨rfl,by first | exact ((((ag.refl _).alloc _).alloc _).alloc _) | exact ((((ag.refl _).alloc _).alloc _).alloc _).drew⟩
theorem vZ (e l h j:Nat) (hl:l<18446744073709551616) (hj:j<64) (w:World) (y:Nat) (hy:y=bk l (2^j)) :
  Calls Tryz.prog 184 #[.agg #[.int .i64 e,.int .u64 l,.int .u64 h],.int .i64 (j:Nat)] w fun e' w'=>e'=.returned (.agg #[.int .i64 e,.int .u64 y,.int .u64 h])/\ag w w':=by
 obtain ⟨i,hi⟩:∃ i,i=j:=⟨_,rfl⟩;rw [<-hi];have q0:(i:Int) / 64=0:=by omega
 have q1:(i:Int) % 64=j:=by omega
 have q2:Int.tdiv (i:Int) 64=0:=by rw [Int.tdiv_eq_ediv_of_nonneg (by omega)];exact q0
 have q3:Int.tmod (i:Int) 64=j:=by rw [Int.tmod_eq_emod_of_nonneg (by omega)];exact q1
 have q4:¬ (j:Int)<0:=by omega
 have p1:=nU j hj;have hp:=lL hj;obtain ⟨z,hz⟩:∃ z,z=2^j:=⟨_,rfl⟩;rw [<-hz] at p1 hp hy;have p2:=kt l z hl hp;rw [<-hy] at p2;clear hz hy hi;go_enter Tryz.func184,Tryz.ntmps184;go_wp2;go_region;all_goals go_wp2
 all_goals exact bodyPost_ret (v:=.agg #[.int .i64 e,.int .u64 y,.int .u64 h]) (by simp [results,Tryz.results184,go_sem]) rfl ⟨rfl,by first | exact ((((ag.refl _).alloc _).alloc _)) | exact ((((ag.refl _).alloc _).alloc _)).drew⟩
theorem De (e l h j:Nat) (V:Nat) (v:Value) (T:Int) (hs:∃ a n c,v=.slice a n c) (hl:h<18446744073709551616) (hV:V<=24) (hj:j<64) (w:World) (y:Nat) (hy:y=h ||| 2^j) :
  Calls Tryz.prog 125 #[.agg #[.int .i64 e,.int .u64 l,.int .u64 h],.agg #[.int .i64 V,v,.int .i64 T],.int .i64 (V+(64+j):Nat)] w fun e' w'=>e'=.returned (.agg #[.int .i64 e,.int .u64 l,.int .u64 y])/\ag w w':=by
 obtain ⟨sa,n,c,rfl⟩:=hs;obtain ⟨i,hi⟩:∃ i,i=64+j:=⟨_,rfl⟩;obtain ⟨a,ha⟩:∃ a,a=V+i:=⟨_,rfl⟩;rw [<-hi,<-ha];have h1:¬ (a:Int)<(V:Int):=by omega
 have h3:IntKind.i64.wrap ((a:Int) - (V:Int))=(i:Int):=by rw [IntKind.wrap_i64];omega
 have h4:(a:Int) - (V:Int)=(i:Int):=by omega
 have q0:(i:Int) / 64=1:=by omega
 have q1:(i:Int) % 64=j:=by omega
 have q2:Int.tdiv (i:Int) 64=1:=by rw [Int.tdiv_eq_ediv_of_nonneg (by omega)];exact q0
 have q3:Int.tmod (i:Int) 64=j:=by rw [Int.tmod_eq_emod_of_nonneg (by omega)];exact q1
 have q4:¬ (j:Int)<0:=by omega
 have p1:=nU j hj;have hp:=lL hj;obtain ⟨z,hz⟩:∃ z,z=2^j:=⟨_,rfl⟩;rw [<-hz] at p1 hp hy;have p2:=oV h z hl hp;rw [<-hy] at p2;clear hz hy hi ha;go_enter Tryz.func125,Tryz.ntmps125;go_wp2;go_region;all_goals go_wp2
 all_goals exact bodyPost_ret (v:=.agg #[.int .i64 e,.int .u64 l,.int .u64 y]) (by simp [results,Tryz.results125,go_sem]) rfl ⟨rfl,by first | exact ((((ag.refl _).alloc _).alloc _).alloc _) | exact ((((ag.refl _).alloc _).alloc _).alloc _).drew⟩
theorem vY (e l h j:Nat) (hl:h<18446744073709551616) (hj:j<64) (w:World) (y:Nat) (hy:y=bk h (2^j)) :
  Calls Tryz.prog 184 #[.agg #[.int .i64 e,.int .u64 l,.int .u64 h],.int .i64 (64+j:Nat)] w fun e' w'=>e'=.returned (.agg #[.int .i64 e,.int .u64 l,.int .u64 y])/\ag w w':=by
 obtain ⟨i,hi⟩:∃ i,i=64+j:=⟨_,rfl⟩;rw [<-hi];have q0:(i:Int) / 64=1:=by omega
 have q1:(i:Int) % 64=j:=by omega
 have q2:Int.tdiv (i:Int) 64=1:=by rw [Int.tdiv_eq_ediv_of_nonneg (by omega)];exact q0
 have q3:Int.tmod (i:Int) 64=j:=by rw [Int.tmod_eq_emod_of_nonneg (by omega)];exact q1
 have q4:¬ (j:Int)<0:=by omega
 have p1:=nU j hj;have hp:=lL hj;obtain ⟨z,hz⟩:∃ z,z=2^j:=⟨_,rfl⟩;rw [<-hz] at p1 hp hy;have p2:=kt h z hl hp;rw [<-hy] at p2;clear hz hy hi;go_enter Tryz.func184,Tryz.ntmps184;go_wp2;go_region;all_goals go_wp2
 all_goals exact bodyPost_ret (v:=.agg #[.int .i64 e,.int .u64 l,.int .u64 y]) (by simp [results,Tryz.results184,go_sem]) rfl ⟨rfl,by first | exact ((((ag.refl _).alloc _).alloc _)) | exact ((((ag.refl _).alloc _).alloc _)).drew⟩
def bt:List Nat->Nat
 | []=>0
 | a :: l=>a+256*bt l
def ek (m:Nat) (l:List Nat):Nat:=bt (l.map fun _=>m)
theorem DB (l:List Nat) (h:∀ a∈l,a<256):(bt l / 2 &&& ek 0x55 l)+(bt l &&& ek 0x55 l)=bt (l.map t1):=by
 induction l with
 | nil=>simp [bt,ek]
 | cons a l ih =>
  have ha:=h a (List.mem_cons_self ..);have ih':=ih fun x hx=>h x (List.mem_cons_of_mem _ hx)
  have hk:=m_ a ha;show ((a+256*bt l) / 2 &&& (0x55+256*ek 0x55 l))+((a+256*bt l) &&& (0x55+256*ek 0x55 l))=t1 a+256*bt (l.map t1)
  rw [show (a+256*bt l) / 2=256*(bt l / 2)+(a / 2+128*(bt l % 2)) by omega,show a+256*bt l=256*bt l+a by omega,show 0x55+256*ek 0x55 l=256*ek 0x55 l+0x55 by omega,
   fq _ _ _ _ (by omega) (by omega),fq _ _ _ _ ha (by omega),<-ih']
  have e:(a / 2+128*(bt l % 2)) &&& 0x55=a / 2 &&& 0x55:=by
   have:bt l % 2=0\/bt l % 2=1:=by omega
   rcases this with h | h <;> rw [h]
   ·rfl
   ·exact hk.1.symm
  rw [e];unfold t1;omega
theorem DC (l:List Nat) (h:∀ a∈l,a<171):(bt l / 4 &&& ek 0x33 l)+(bt l &&& ek 0x33 l)=bt (l.map t2):=by
 induction l with
 | nil=>simp [bt,ek]
 | cons a l ih =>
  have ha:=h a (List.mem_cons_self ..);have ih':=ih fun x hx=>h x (List.mem_cons_of_mem _ hx)
  have hk:=nc a ha (bt l % 4) (by omega);show ((a+256*bt l) / 4 &&& (0x33+256*ek 0x33 l))+((a+256*bt l) &&& (0x33+256*ek 0x33 l))=t2 a+256*bt (l.map t2)
  rw [show (a+256*bt l) / 4=256*(bt l / 4)+(a / 4+64*(bt l % 4)) by omega,show a+256*bt l=256*bt l+a by omega,show 0x33+256*ek 0x33 l=256*ek 0x33 l+0x33 by omega,
   fq _ _ _ _ (by omega) (by omega),fq _ _ _ _ (by omega) (by omega),<-ih',<-hk.1]
  unfold t2;omega
theorem xr (l:List Nat):bt l % 16=(l.headD 0) % 16:=by
 cases l with
 | nil=>rfl
 | cons a l=>show (a+256*bt l) % 16=a % 16;omega
theorem DD (l:List Nat) (h:∀ a∈l,a<103/\a % 16<7):(bt l / 16+bt l) &&& ek 15 l=bt (l.map t3):=by
 induction l with
 | nil=>simp [bt,ek]
 | cons a l ih =>
  have ha:=h a (List.mem_cons_self ..);have ih':=ih fun x hx=>h x (List.mem_cons_of_mem _ hx)
  have hm:bt l % 16<7:=by
   rw [xr];cases l with
   | nil=>decide
   | cons b l=>exact (h b (by simp)).2
  have hk:=wN a ha.1 (bt l % 16) hm;show ((a+256*bt l) / 16+(a+256*bt l)) &&& (15+256*ek 15 l)=t3 a+256*bt (l.map t3)
  rw [show (a+256*bt l) / 16+(a+256*bt l)=256*(bt l / 16+bt l)+(a / 16+16*(bt l % 16)+a) by omega,show 15+256*ek 15 l=256*ek 15 l+15 by omega,
   fq _ _ _ _ (by omega) (by omega),ih',hk.1]
  omega
theorem q_ (l:List Nat) (h:∀ a∈l,a<256):bt l<256^l.length:=by
 induction l with
 | nil=>simp [bt]
 | cons a l ih =>
  have ha:=h a (List.mem_cons_self ..);have ih':=ih fun x hx=>h x (List.mem_cons_of_mem _ hx)
  show a+256*bt l<256^(l.length+1);rw [Nat.pow_succ];omega
theorem D_ (l:List Nat) (h:∀ a∈l,a<256):pc (bt l)=(l.map pc).sum:=by
 induction l with
 | nil=>simp [bt,gL]
 | cons a l ih =>
  show pc (a+256*bt l)=pc a+(l.map pc).sum;rw [Nat.add_comm,gK a _ (h a (List.mem_cons_self ..)),ih fun x hx=>h x (List.mem_cons_of_mem _ hx)]
theorem DA (n:Nat) (h:n<18446744073709551616):∃ l:List Nat,l.length=8/\(∀ a∈l,a<256)/\n=bt l:=by
 refine ⟨[n % 256,n / 256 % 256,n / 65536 % 256,n / 16777216 % 256,n / 4294967296 % 256,n / 1099511627776 % 256,n / 281474976710656 % 256,n / 72057594037927936],rfl,?_,?_⟩
 ·intro a ha;simp only [List.mem_cons,List.not_mem_nil,or_false] at ha;omega
 ·simp only [bt];omega
theorem Ch (l:List Nat) (h:∀ a∈l,a<103) (k:Nat) (hl:l.length=k):bt l<=102*bt (List.replicate k 1):=by
 subst hl;induction l with
 | nil=>simp [bt]
 | cons a l ih =>
  have ha:=h a (List.mem_cons_self ..);have ih':=ih fun x hx=>h x (List.mem_cons_of_mem _ hx)
  show a+256*bt l<=102*(1+256*bt (List.replicate l.length 1));omega
theorem Co (a m b:Nat) (h:a<m):(a+m*b) / m=b:=by rw [Nat.add_mul_div_left _ _ (by omega),Nat.div_eq_of_lt h,Nat.zero_add]
def eR:List Nat->List Nat->List Nat
 | [],r=>r
 | a :: l,[]=>a :: l
 | a :: l,b :: r=>(a+b) :: eR l r
theorem sf:∀ l r,bt (eR l r)=bt l+bt r
 | [],r=>by simp [eR,bt]
 | a :: l,[]=>by simp [eR,bt]
 | a :: l,b :: r=>by
  show (a+b)+256*bt (eR l r)=(a+256*bt l)+(b+256*bt r);rw [sf l r];omega
theorem wn (x y:Nat):∀ l r,(∀ a∈l,a<x+1)->(∀ a∈r,a<y+1)->∀ a∈eR l r,a<x+y+1
 | [],r,_,h2=>fun a ha=>by have:=h2 a ha;omega
 | a :: l,[],h1,_=>fun x hx=>by have:=h1 x hx;omega
 | a :: l,b :: r,h1,h2=>fun z hz=>by
  rcases List.mem_cons.1 hz with e | e
  ·have:=h1 a (by simp);have:=h2 b (by simp);omega
  ·exact wn x y l r (fun q hq=>h1 q (List.mem_cons_of_mem _ hq)) (fun q hq=>h2 q (List.mem_cons_of_mem _ hq)) z e
theorem rZ:∀ l r:List Nat,r.length<=l.length->(eR l r).length=l.length
 | [],r,h=>by simpa [eR] using h
 | a :: l,[],_=>rfl
 | a :: l,b :: r,h=>by simp only [eR,List.length_cons];rw [rZ l r (by simpa using h)]
theorem qf:∀ (k:Nat) (l:List Nat),bt l=bt (l.take k)+256^k*bt (l.drop k)
 | 0,l=>by simp [bt]
 | k+1,[]=>by simp [bt]
 | k+1,a :: l=>by
  show a+256*bt l=(a+256*bt (l.take k))+256^(k+1)*bt (l.drop k);have:=qf k l;rw [this,Nat.pow_succ,Nat.mul_add,Nat.mul_comm (256^k) 256,Nat.mul_assoc];omega
theorem mR (f:Int->Int) (k m:Nat) (M:Int) (hM:M=(m:Int)) (hm:m=256^k) (hf:∀ x,f x=IntKind.u64.wrap (x+x / M)) (l:List Nat) (hl:l.length=8) (x:Nat) (hx:∀ a∈l,a<x+1) (h9:x+x<256) :
  f (bt l:Nat)=(bt (eR l (l.drop k)):Nat)/\(eR l (l.drop k)).length=8/\∀ a∈eR l (l.drop k),a<x+x+1:=by
 have hb:=wn x x l (l.drop k) hx fun a ha=>hx a (List.mem_of_mem_drop ha)
 have hlen:(eR l (l.drop k)).length=8:=by rw [rZ _ _ (by simp),hl]
 refine ⟨?_,hlen,hb⟩
 have hlt:bt (eR l (l.drop k))<18446744073709551616:=by
  have:=q_ (eR l (l.drop k)) fun a ha=>by have:=hb a ha;omega
  rw [hlen] at this;exact this
 have ha:bt (l.take k)<m:=by
  have:=q_ (l.take k) fun a ha=>by have:=hx a (List.mem_of_mem_take ha);omega
  rw [hm];exact Nat.lt_of_lt_of_le this (Nat.pow_le_pow_right (by omega) (by simp;omega))
 have hs:=qf k l;rw [<-hm] at hs;have hd:bt l / m=bt (l.drop k):=by rw [hs];exact Co _ _ _ ha
 rw [hf,hM,show ((bt l:Nat):Int) / (m:Int)=((bt l / m:Nat):Int) by simp,hd,<-Int.natCast_add,<-sf];exact wrap_u64 _ hlt
def qn (l:List Nat):List Nat:=eR (eR (eR l (l.drop 1)) ((eR l (l.drop 1)).drop 2)) ((eR (eR l (l.drop 1)) ((eR l (l.drop 1)).drop 2)).drop 4)
theorem uo (l:List Nat) (hl:l.length=8):∃ r,qn l=l.sum :: r:=by
 match l,hl with
 | [y0,y1,y2,y3,y4,y5,y6,y7],_ =>
  refine ⟨(qn [y0,y1,y2,y3,y4,y5,y6,y7]).tail,?_⟩;simp only [qn,eR,List.drop,List.tail,List.sum_cons,List.sum_nil];exact List.cons_eq_cons.2 ⟨by omega,rfl⟩
theorem Dz:∀ (r:List Nat),(∀ a∈r,a<65)->bt r<=64*bt (List.replicate r.length 1):=by
 intro r;induction r with
 | nil=>intro _;simp [bt]
 | cons a r ih =>
  intro h;have h1:=h a (List.mem_cons_self ..);have h2:=ih (fun x hx=>h x (List.mem_cons_of_mem _ hx));show a+256*bt r<=64*(1+256*bt (List.replicate r.length 1));omega
theorem BI (p q:Nat) (hp:p<65) (h:p+256*q<9223372036854775808):bits .and .i64 (wrap64 ((p+256*q:Nat):Int)) 127=(p:Int):=by
 rw [show wrap64 ((p+256*q:Nat):Int)=((p+256*q:Nat):Int) from by unfold wrap64;omega,show (127:Int)=((127:Nat):Int) from rfl,jz _ _ h (by decide)];rw [show (127:Nat)=2^7 - 1 from rfl,Nat.and_two_pow_sub_one_eq_mod];omega
theorem y_ (l:List Nat) (hl:l.length=8) (hb:∀ a∈l,a<8+1):s6 (s5 (s4 ((bt l:Nat):Int)))=((bt (qn l):Nat):Int)/\(qn l).length=8/\∀ a∈qn l,a<65:=by
 obtain ⟨e1,l1,b1⟩:=mR s4 1 256 256 rfl (by decide) (fun _=>rfl) l hl 8 hb (by omega);obtain ⟨e2,l2,b2⟩:=mR s5 2 65536 65536 rfl (by decide) (fun _=>rfl) _ l1 16 b1 (by omega);obtain ⟨e3,l3,b3⟩:=mR s6 4 4294967296 4294967296 rfl (by decide) (fun _=>rfl) _ l2 32 b2 (by omega);refine ⟨?_,l3,b3⟩;rw [e1,e2,e3];rfl
theorem BJ (l:List Nat) (hl:l.length=8) (hb:∀ a∈l,a<8+1):bits .and .i64 (wrap64 (s6 (s5 (s4 ((bt l:Nat):Int))))) 127=((l.sum:Nat):Int):=by
 obtain ⟨e,hlen,hB⟩:=y_ l hl hb;obtain ⟨r,hr⟩:=uo l hl;have hlt:=Dz _ hB;rw [hlen,show bt (List.replicate 8 1)=72340172838076673 from rfl] at hlt;rw [e];rw [hr] at hlt hB⊢;have hp:=hB _ (List.mem_cons_self ..);exact BI _ (bt r) hp (by have:l.sum+256*bt r<=64*72340172838076673:=hlt;omega)
theorem sW (n:Nat) (h:n<18446744073709551616):Ds (n:Int)=(pc n:Nat):=by
 obtain ⟨l,hl,hb,rfl⟩:=DA n h;rw [D_ l hb]
 have r1:ek 0x55 l=6148914691236517205:=by
  unfold ek;rw [List.map_const',hl];rfl
 have r2:ek 0x33 (l.map t1)=3689348814741910323:=by
  unfold ek;rw [List.map_const',List.length_map,hl];rfl
 have r3:ek 15 ((l.map t1).map t2)=1085102592571150095:=by
  unfold ek;rw [List.map_const',List.length_map,List.length_map,hl];rfl
 have b1:∀ a∈l.map t1,a<171:=by
  intro a ha;obtain ⟨x,hx,rfl⟩:=List.mem_map.1 ha;exact (m_ x (hb x hx)).2
 have b2:∀ a∈(l.map t1).map t2,a<103/\a % 16<7:=by
  intro a ha;obtain ⟨x,hx,rfl⟩:=List.mem_map.1 ha;exact (nc x (b1 x hx) 0 (by omega)).2
 have l1:bt (l.map t1)<18446744073709551616:=by
  have:=q_ (l.map t1) fun a ha=>by have:=b1 a ha;omega
  rw [List.length_map,hl] at this;exact this
 have l2:bt ((l.map t1).map t2)<18446744073709551616:=by
  have:=q_ ((l.map t1).map t2) fun a ha=>by have:=(b2 a ha).1;omega
  rw [List.length_map,List.length_map,hl] at this;exact this
 have e1:s1 ((bt l:Nat):Int)=((bt (l.map t1):Nat):Int):=by
  unfold s1;have:=DB l hb;rw [r1] at this;rw [show ((bt l:Nat):Int) / 2=((bt l / 2:Nat):Int) by omega,show (6148914691236517205:Int)=((6148914691236517205:Nat):Int) from rfl,dE _ _ (by omega) (by decide),dE _ _ h (by decide),<-Int.natCast_add,this];exact wrap_u64 _ l1
 have e2:s2 ((bt (l.map t1):Nat):Int)=((bt ((l.map t1).map t2):Nat):Int):=by
  unfold s2;have:=DC (l.map t1) b1;rw [r2] at this;rw [show ((bt (l.map t1):Nat):Int) / 4=((bt (l.map t1) / 4:Nat):Int) by omega,show (3689348814741910323:Int)=((3689348814741910323:Nat):Int) from rfl,dE _ _ (by omega) (by decide),dE _ _ l1 (by decide),<-Int.natCast_add,this];exact wrap_u64 _ l2
 have e3:s3 ((bt ((l.map t1).map t2):Nat):Int)=((bt (((l.map t1).map t2).map t3):Nat):Int):=by
  unfold s3;have:=DD _ b2;rw [r3] at this;have hlt:=Ch ((l.map t1).map t2) (fun a ha=>(b2 a ha).1) 8 (by simp [hl]);rw [show bt (List.replicate 8 1)=72340172838076673 from rfl] at hlt;rw [show ((bt ((l.map t1).map t2):Nat):Int) / 16+((bt ((l.map t1).map t2):Nat):Int)=((bt ((l.map t1).map t2) / 16+bt ((l.map t1).map t2):Nat):Int) by omega,wrap_u64 _ (by omega),show (1085102592571150095:Int)=((1085102592571150095:Nat):Int) from rfl,dE _ _ (by omega) (by decide),this]
 unfold Ds
 rw [e1,e2,e3,BJ _ (by simp [hl]) (fun a ha=>by
  obtain ⟨y,hy,rfl⟩:=List.mem_map.1 ha;obtain ⟨z,hz,rfl⟩:=List.mem_map.1 hy;obtain ⟨x,hx,rfl⟩:=List.mem_map.1 hz;exact nR x (hb x hx))]
 rw [List.map_map,List.map_map];congr 2;exact List.map_congr_left fun x hx=>rD x (hb x hx)
def bZ (c:Nat):Nat:=c % 16777216
def bW (c:Nat):Nat:=c / 16777216 % 18446744073709551616
def bP (c:Nat):Nat:=c / 309485009821345068724781056
theorem da (c i:Nat):(bZ c).testBit i=(decide (i<24)&&c.testBit i):=by
 unfold bZ;rw [show (16777216:Nat)=2^24 from rfl,Nat.testBit_mod_two_pow]
theorem bM (c i:Nat):(bW c).testBit i=(decide (i<64)&&c.testBit (24+i)):=by
 unfold bW;rw [show (18446744073709551616:Nat)=2^64 from rfl,show (16777216:Nat)=2^24 from rfl,Nat.testBit_mod_two_pow,Nat.testBit_div_two_pow,Nat.add_comm]
theorem bL (c i:Nat):(bP c).testBit i=c.testBit (88+i):=by
 unfold bP;rw [show (309485009821345068724781056:Nat)=2^88 from rfl,Nat.testBit_div_two_pow,Nat.add_comm]
theorem mt (c:Nat):bZ c<16777216:=Nat.mod_lt _ (by decide)
theorem gD (c:Nat):bW c<18446744073709551616:=Nat.mod_lt _ (by decide)
theorem jk {c:Nat} (h:aI 152 c):bP c<18446744073709551616:=by
 have:=gk h;unfold bP;refine Nat.div_lt_of_lt_mul ?_;exact Nat.lt_of_lt_of_le this (by decide)
abbrev cH (c:Nat):Value:=.agg #[.int .i64 (bZ c),.int .u64 (bW c),.int .u64 (bP c)]
theorem bD (c m i:Nat):(c ||| 2^m).testBit i=(c.testBit i||decide (m=i)):=by
 rw [Nat.testBit_or,Nat.testBit_two_pow]
theorem Cp {c a:Nat} (h:a<24):bZ (c ||| 2^a)=bZ c ||| 2^a/\bW (c ||| 2^a)=bW c/\bP (c ||| 2^a)=bP c:=by
 refine ⟨?_,?_,?_⟩ <;> apply Nat.eq_of_testBit_eq <;> intro i
 ·rw [da,bD,bD,da];by_cases h1:i<24
  ·simp [h1]
  ·simp [h1];omega
 ·rw [bM,bD,bM];by_cases h1:i<64
  ·simp [h1];omega
  ·simp [h1]
 ·rw [bL,bD,bL];simp;omega
theorem CC {c j:Nat} (h:j<64):bZ (c ||| 2^(24+j))=bZ c/\bW (c ||| 2^(24+j))=bW c ||| 2^j/\bP (c ||| 2^(24+j))=bP c:=by
 refine ⟨?_,?_,?_⟩ <;> apply Nat.eq_of_testBit_eq <;> intro i
 ·rw [da,bD,da];by_cases h1:i<24
  ·simp [h1];omega
  ·simp [h1]
 ·rw [bM,bD,bD,bM];by_cases h1:i<64
  ·simp [h1]
  ·simp [h1];omega
 ·rw [bL,bD,bL];simp;omega
theorem Cs {c j:Nat}:bZ (c ||| 2^(24+(64+j)))=bZ c/\bW (c ||| 2^(24+(64+j)))=bW c/\bP (c ||| 2^(24+(64+j)))=bP c ||| 2^j:=by
 refine ⟨?_,?_,?_⟩ <;> apply Nat.eq_of_testBit_eq <;> intro i
 ·rw [da,bD,da];by_cases h1:i<24
  ·simp [h1];omega
  ·simp [h1]
 ·rw [bM,bD,bM];by_cases h1:i<64
  ·simp [h1];omega
  ·simp [h1]
 ·rw [bL,bD,bD,bL];congr 1;rw [decide_eq_decide];omega
theorem cM (c m i:Nat):(bk c (2^m)).testBit i=(c.testBit i&&!decide (m=i)):=by
 rw [dA,Nat.testBit_two_pow]
theorem uJ {c j:Nat} (h:j<64):bZ (bk c (2^(24+j)))=bZ c/\bW (bk c (2^(24+j)))=bk (bW c) (2^j)/\bP (bk c (2^(24+j)))=bP c:=by
 refine ⟨?_,?_,?_⟩ <;> apply Nat.eq_of_testBit_eq <;> intro i
 ·rw [da,cM,da];by_cases h1:i<24
  ·simp [h1];omega
  ·simp [h1]
 ·rw [bM,cM,cM,bM];by_cases h1:i<64
  ·simp [h1]
  ·simp [h1]
 ·rw [bL,cM,bL];simp;omega
theorem uC {c j:Nat}:bZ (bk c (2^(24+(64+j))))=bZ c/\bW (bk c (2^(24+(64+j))))=bW c/\bP (bk c (2^(24+(64+j))))=bk (bP c) (2^j):=by
 refine ⟨?_,?_,?_⟩ <;> apply Nat.eq_of_testBit_eq <;> intro i
 ·rw [da,cM,da];by_cases h1:i<24
  ·simp [h1];omega
  ·simp [h1]
 ·rw [bM,cM,bM];by_cases h1:i<64
  ·simp [h1];omega
  ·simp [h1]
 ·rw [bL,cM,cM,bL];congr 2;rw [decide_eq_decide];omega
theorem Bm {c:Nat} (hc:aI 152 c) (i:Nat) (hi:i<128) (w:World):Calls Tryz.prog 127 #[cH c,.int .i64 i] w fun e w'=>e=.returned (.bool (c.testBit (24+i)))/\ag w w':=by
 by_cases h:i<64
 ·have:=DL (bZ c) (bW c) (bP c) i (gD c) h w;rw [bM,decide_eq_true h,Bool.true_and] at this;exact this
 ·obtain ⟨j,rfl⟩:∃ j,i=64+j:=⟨i - 64,by omega⟩;have:=DK (bZ c) (bW c) (bP c) j (jk hc) (by omega) w;rw [bL,show 88+j=24+(64+j) by omega] at this;exact this
theorem jO {c:Nat} (hc:aI 152 c) (V:Nat) (v:Value) (T:Int) (hs:∃ a n c,v=.slice a n c) (hV:V<=24) (a:Int) (ha:0<=a/\a<(V:Int)+128) (w:World) :
  Calls Tryz.prog 125 #[cH c,.agg #[.int .i64 V,v,.int .i64 T],.int .i64 a] w fun e w'=>e=.returned (cH (bo V c a))/\ag w w':=by
 obtain ⟨A,rfl⟩:=Int.eq_ofNat_of_zero_le ha.1;unfold bo cond;by_cases h:A<V
 ·rw [if_pos (by omega),Int.toNat_natCast];have:=Dd (bZ c) (bW c) (bP c) A V v T hs (mt c) hV h w;obtain ⟨e1,e2,e3⟩:=Cp (c:=c) (a:=A) (by omega);unfold cH;rw [e1,e2,e3];exact this
 ·rw [if_neg (by omega)];obtain ⟨i,rfl⟩:∃ i,A=V+i:=⟨A - V,by omega⟩;rw [show (((V+i:Nat):Int) - (V:Int)).toNat=i by omega];unfold cH;by_cases h6:i<64
  ·obtain ⟨e1,e2,e3⟩:=CC (c:=c) (j:=i) h6;rw [e1,e2,e3];exact Df (bZ c) (bW c) (bP c) i V v T hs (gD c) hV h6 w _ rfl
  ·obtain ⟨j,rfl⟩:∃ j,i=64+j:=⟨i - 64,by omega⟩;obtain ⟨e1,e2,e3⟩:=Cs (c:=c) (j:=j);rw [e1,e2,e3];exact De (bZ c) (bW c) (bP c) j V v T hs (jk hc) hV (by omega) w _ rfl
theorem rP {c:Nat} (hc:aI 152 c) (i:Nat) (hi:i<128) (w:World):Calls Tryz.prog 184 #[cH c,.int .i64 i] w fun e w'=>e=.returned (cH (bk c (2^(24+i))))/\ag w w':=by
 unfold cH;by_cases h6:i<64
 ·obtain ⟨e1,e2,e3⟩:=uJ (c:=c) (j:=i) h6;rw [e1,e2,e3];exact vZ (bZ c) (bW c) (bP c) i (gD c) h6 w _ rfl
 ·obtain ⟨j,rfl⟩:∃ j,i=64+j:=⟨i - 64,by omega⟩;obtain ⟨e1,e2,e3⟩:=uC (c:=c) (j:=j);rw [e1,e2,e3];exact vY (bZ c) (bW c) (bP c) j (jk hc) (by omega) w _ rfl
theorem Br (c:Nat):c=2^88*bP c+(2^24*bW c+bZ c):=by
 unfold bP bW bZ;have h1:=Nat.div_add_mod c 16777216;have h2:=Nat.div_add_mod (c / 16777216) 18446744073709551616;rw [Nat.div_div_eq_div_mul] at h2;rw [show (309485009821345068724781056:Nat)=16777216*18446744073709551616 from rfl,show (2:Nat)^88=16777216*18446744073709551616 from rfl,show (2:Nat)^24=16777216 from rfl];generalize c / (16777216*18446744073709551616)=h at *;generalize c / 16777216 % 18446744073709551616=l at *;omega
theorem sY:∀ k n,n<2^k->∀ h,pc (2^k*h+n)=pc n+pc h:=by
 intro k;induction k with
 | zero =>
      intro n hn h;have:n=0:=by simpa using hn
      subst this;rw [gL];simp
 | succ k ih =>
  intro n hn h;rw [cw,cw n];have e1:(2^(k+1)*h+n) % 2=n % 2:=by rw [Nat.pow_succ,Nat.mul_comm (2^k) 2,Nat.mul_assoc];omega
  have e2:(2^(k+1)*h+n) / 2=2^k*h+n / 2:=by rw [Nat.pow_succ,Nat.mul_comm (2^k) 2,Nat.mul_assoc];omega
  rw [e1,e2,ih (n / 2) (by rw [Nat.pow_succ] at hn;omega) h];omega
theorem D' (c:Nat):pc c=pc (bZ c)+pc (bW c)+pc (bP c):=by
 have h:=Br c;have h1:=mt c;have h2:=gD c
 have e1:2^24*bW c+bZ c<2^88:=by
  rw [show (2:Nat)^24=16777216 from rfl,show (2:Nat)^88=309485009821345068724781056 from rfl];omega
 conv=>lhs;rw [h]
 rw [sY 88 _ e1,sY 24 _ (by rw [show (2:Nat)^24=16777216 from rfl];exact h1)]
theorem CZ (a b:Nat):aZ a b=(aZ (bZ a) (bZ b)&&(aZ (bW a) (bW b)&&aZ (bP a) (bP b))):=by
 rw [Bool.eq_iff_iff,Bool.and_eq_true,Bool.and_eq_true,a_,a_,a_,a_];constructor
 ·intro h;refine ⟨fun i hi=>?_,fun i hi=>?_,fun i hi=>?_⟩
  ·rw [da] at hi⊢;simp at hi⊢;exact ⟨hi.1,h i hi.2⟩
  ·rw [bM] at hi⊢;simp at hi⊢;exact ⟨hi.1,h _ hi.2⟩
  ·rw [bL] at hi⊢;exact h _ hi
 ·rintro ⟨h1,h2,h3⟩ i hi;by_cases c1:i<24
  ·have:=h1 i (by rw [da];simp [c1,hi]);rw [da] at this;simp at this;exact this.2
  ·by_cases c2:i<88
   ·have:=h2 (i - 24) (by rw [bM,show 24+(i - 24)=i by omega];simp [hi];omega);rw [bM,show 24+(i - 24)=i by omega] at this;simp at this;exact this.2
   ·have:=h3 (i - 88) (by rw [bL,show 88+(i - 88)=i by omega];exact hi);rw [bL,show 88+(i - 88)=i by omega] at this;exact this
theorem sX (n:Nat):∀ c,c<2^n->pc c<=n:=by
 induction n with
 | zero =>
      intro c h;have:c=0:=by simpa using h
      subst this;rw [gL];omega
 | succ n ih =>
  intro c h;rw [cw];have:=ih (c / 2) (by rw [Nat.pow_succ] at h;omega);omega
theorem CY (a b:Nat) (ha:a<9223372036854775808) (hb:b<9223372036854775808):(bits .andNot .i64 (a:Int) (b:Int) == 0)=aZ a b:=by
 rw [nX a b ha hb];unfold aZ;rw [Bool.eq_iff_iff];simp
theorem xl (a b:Nat) (ha:a<18446744073709551616) (hb:b<18446744073709551616):(bits .andNot .u64 (a:Int) (b:Int) == 0)=aZ a b:=by
 rw [kt a b ha hb];unfold aZ;rw [Bool.eq_iff_iff];simp
theorem yR {a b:Nat} (ha:aI 152 a) (hb:aI 152 b) (w:World):Calls Tryz.prog 192 #[cH a,cH b] w fun e w'=>e=.returned (.bool (aZ a b))/\∃ C O,w'=(w.alloc C).alloc O:=by
 have b1:=CY (bZ a) (bZ b) (by have:=mt a;omega) (by have:=mt b;omega);have b2:=xl (bW a) (bW b) (gD a) (gD b);have b3:=xl (bP a) (bP b) (jk ha) (jk hb);rw [CZ];generalize aZ (bZ a) (bZ b)=x1 at *;generalize aZ (bW a) (bW b)=x2 at *;generalize aZ (bP a) (bP b)=x3 at *;unfold cH;generalize bZ a=ea at *;generalize bZ b=eb at *;generalize bW a=la at *;generalize bW b=lb at *;generalize bP a=za at *;generalize bP b=zb at *;clear ha hb;cases x1 with
 | false =>
  go_enter Tryz.func192,Tryz.ntmps192;go_wp2;go_ret;exact ⟨rfl,_,_,rfl⟩
 | true =>
  cases x2 with
  | false =>
   go_enter Tryz.func192,Tryz.ntmps192;go_wp2;go_ret;exact ⟨rfl,_,_,rfl⟩
  | true =>
   go_enter Tryz.func192,Tryz.ntmps192;go_wp2;go_ret;exact ⟨by cases x3 <;> rfl,_,_,rfl⟩
theorem qH {c:Nat} (hc:aI 152 c) (w:World):Calls Tryz.prog 189 #[cH c] w fun e w'=>e=.returned (.int .i64 (pc c))/\∃ C n,w'=(w.alloc C).drewN n:=by
 have h1:∀ W,Calls Tryz.prog 134 #[.int .i64 (bZ c)] W fun e w'=>e=.returned (.int .i64 (pc (bZ c)))/\w'=W:=fun W=>(qh (mt c) W).mono fun _ _ h=>⟨h.1,h.2.symm⟩
 have h2:∀ W,Calls Tryz.prog 241 #[.int .u64 (bW c)] W fun e w'=>e=.returned (.int .i64 (pc (bW c)))/\w'=W:=fun W=>(kJ _ W).mono fun _ _ h=>⟨by rw [h.1,sW _ (gD c)],h.2.symm⟩
 have h3:∀ W,Calls Tryz.prog 241 #[.int .u64 (bP c)] W fun e w'=>e=.returned (.int .i64 (pc (bP c)))/\w'=W:=fun W=>(kJ _ W).mono fun _ _ h=>⟨by rw [h.1,sW _ (jk hc)],h.2.symm⟩
 have e1:=sX 24 (bZ c) (mt c);have e2:=sX 64 (bW c) (gD c);have e3:=sX 64 (bP c) (jk hc);rw [D' c];unfold cH;generalize pc (bZ c)=p1 at *;generalize pc (bW c)=p2 at *;generalize pc (bP c)=p3 at *;generalize bZ c=ea at *;generalize bW c=la at *;generalize bP c=za at *;have H1:=af h1;have H2:=af h2;have H3:=af h3;have w1:IntKind.i64.wrap ((p1:Int)+(p2:Int))=(p1:Int)+(p2:Int):=by rw [IntKind.wrap_i64];omega
 have w2:IntKind.i64.wrap ((p1:Int)+(p2:Int)+(p3:Int))=(p1:Int)+(p2:Int)+(p3:Int):=by rw [IntKind.wrap_i64];omega
 clear h1 h2 h3 hc;go_enter Tryz.func189,Tryz.ntmps189;go_wp2;go_quiet ((first | (go_at_call 134;exact Calls.quiet_of_same (H1.out _)) | (go_at_call 241;(with_reducible exact Calls.quiet_of_same (H2.out _))) | (go_at_call 241;(with_reducible exact Calls.quiet_of_same (H3.out _)))));go_wp2;go_ret;exact ⟨by simp,_,_,rfl⟩
section
open Go.Sort
section
variable {α:Type}
def tR (a b n:Nat) (f:Nat->α) (x:Nat):α:=if a<=x/\x<a+n then f (x+(b - a)) else if b<=x/\x<b+n then f (x - (b - a)) else f x
def dN (a m b:Nat) (f:Nat->α) (x:Nat):α:=if a<=x/\x<a+(b - m) then f (x+(m - a)) else if a+(b - m)<=x/\x<b then f (x - (b - m)) else f x
theorem BH (a b:Nat) (f:Nat->α) (x:Nat):tR a b 0 f x=f x:=by
 unfold tR;rw [if_neg (by omega),if_neg (by omega)]
theorem BG (a b n:Nat) (f:Nat->α) (h:a+n<b) (x:Nat) :
  (if x=b+n then tR a b n f (a+n) else if x=a+n then tR a b n f (b+n) else tR a b n f x)=tR a b (n+1) f x:=by
 unfold tR;by_cases h1:x=b+n
 ·subst h1;rw [if_pos rfl,if_neg (by omega),if_neg (by omega),if_neg (by omega),if_pos (by omega)];congr 1;omega
 ·rw [if_neg h1];by_cases h2:x=a+n
  ·subst h2;rw [if_pos rfl,if_neg (by omega),if_neg (by omega),if_pos (by omega)];congr 1;omega
  ·rw [if_neg h2];by_cases h3:a<=x/\x<a+n
   ·rw [if_pos h3,if_pos (by omega)]
   ·rw [if_neg h3];by_cases h4:b<=x/\x<b+n
    ·rw [if_pos h4,if_neg (by omega),if_pos (by omega)]
    ·rw [if_neg h4,if_neg (by omega),if_neg (by omega)]
theorem Ec (m i j:Nat) (hi:i<=m) (hj:j<i) (f:Nat->α) (x:Nat):dN (m - (i - j)) m (m+j) (tR (m - i) m j f) x=dN (m - i) m (m+j) f x:=by
 unfold dN tR;repeat' split
 all_goals first | (exfalso;omega) | rfl | (congr 1 <;> omega)
theorem Ed (m i j:Nat) (hi:i<=m) (hj:i<j) (f:Nat->α) (x:Nat):dN (m - i) m (m+(j - i)) (tR (m - i) (m+j - i) i f) x=dN (m - i) m (m+j) f x:=by
 unfold dN tR;repeat' split
 all_goals first | (exfalso;omega) | rfl | (congr 1 <;> omega)
theorem Eb (m i:Nat) (hi:i<=m) (f:Nat->α) (x:Nat):tR (m - i) m i f x=dN (m - i) m (m+i) f x:=by
 unfold dN tR;repeat' split
 all_goals first | (exfalso;omega) | rfl | (congr 1 <;> omega)
theorem Ee (a k:Nat) (h:a<=k) (f:Nat->α) (x:Nat) :
  (if x=k+1 then dN a (a+1) (k+1) f k else if x=k then dN a (a+1) (k+1) f (k+1) else dN a (a+1) (k+1) f x)=dN a (a+1) (k+2) f x:=by
 unfold dN;repeat' split
 all_goals first | (exfalso;omega) | rfl | (congr 1 <;> omega)
theorem Bo (k m:Nat) (h:k+1<=m) (f:Nat->α) (x:Nat) :
  (if x=k then dN (k+1) m (m+1) f (k+1) else if x=k+1 then dN (k+1) m (m+1) f k else dN (k+1) m (m+1) f x)=dN k m (m+1) f x:=by
 unfold dN;repeat' split
 all_goals first | (exfalso;omega) | rfl | (congr 1 <;> omega)
theorem Bp (a b:Nat) (f:Nat->α) (x:Nat):dN a a b f x=f x:=by
 unfold dN;repeat' split
 all_goals first | (exfalso;omega) | rfl | (congr 1 <;> omega)
theorem qF (a b:Nat) (f:Nat->α) (x:Nat):dN a b b f x=f x:=by
 unfold dN;repeat' split
 all_goals first | (exfalso;omega) | rfl | (congr 1 <;> omega)
end
section
variable {α:Type} [Inhabited α] {lt:α->α->Bool}
def pR (d:Array α) (x:Nat):α:=d[x]!
def lY (a m b:Nat) (d d':Array α):Prop:=PermIn a b d d'/\∀ x,d'[x]! = dN a m b (pR d) x
def zq (a b n:Nat) (d d':Array α):Prop:=PermIn a (b+n) d d'/\∀ x,d'[x]! = tR a b n (pR d) x
theorem zq.start (a b:Nat) (d:Array α):zq a b 0 d d:=⟨permIn_refl _ _ _,fun x=>(BH a b (pR d) x).symm⟩
theorem zq.step {a b n:Nat} {d d':Array α} (h:zq a b n d d') (h1:a+n<b) (h2:b+n<d.size):zq a b (n+1) d (swp d' (a+n) (b+n)):=by
 have hs:d'.size=d.size:=h.1.1;refine ⟨permIn_trans _ _ _ _ _ (permIn_mono _ _ _ _ _ _ (Nat.le_refl _) (by omega) (by omega) h.1) (swp_permIn _ _ _ _ _ (by omega) (by omega) (by omega) (by omega) (by omega)),fun x=>?_⟩;rw [Go.Sort.swp_get d' (by omega) (by omega),<-BG a b n (pR d) h1 x,h.2,h.2,h.2]
def hJ (a m b:Nat) (d:Array α) (i j:Nat) (dk:Array α):Prop:=PermIn a b d dk/\(∀ x,dN (m - i) m (m+j) (pR dk) x=dN a m b (pR d) x)/\a<=m - i/\i<=m/\m+j<=b
theorem hJ.start {a m b:Nat} (d:Array α) (h1:a<=m) (h2:m<=b):hJ a m b d (m - a) (b - m) d :=
 ⟨permIn_refl _ _ _,fun x=>by rw [show m - (m - a)=a by omega,show m+(b - m)=b by omega],by omega,by omega,by omega⟩
theorem hJ.right {a m b i j:Nat} {d dk dn:Array α} (h:hJ a m b d i j dk) (hb:b<=d.size) (hj:j<i) (hs:zq (m - i) m j dk dn):hJ a m b d (i - j) j dn:=by
 obtain ⟨h1,h2,h3,h4,h5⟩:=h;refine ⟨permIn_trans _ _ _ _ _ h1 (permIn_mono _ _ _ _ _ _ h3 h5 (by rw [h1.1];exact hb) hs.1),fun x=>?_,by omega,by omega,h5⟩;rw [<-h2,<-Ec m i j h4 hj (pR dk) x];have e:pR dn=tR (m - i) m j (pR dk):=funext hs.2;rw [e]
theorem hJ.left {a m b i j:Nat} {d dk dn:Array α} (h:hJ a m b d i j dk) (hb:b<=d.size) (hj:i<j) (hs:zq (m - i) (m+j - i) i dk dn):hJ a m b d i (j - i) dn:=by
 obtain ⟨h1,h2,h3,h4,h5⟩:=h;refine ⟨permIn_trans _ _ _ _ _ h1 (permIn_mono _ _ _ _ _ _ h3 (by omega) (by rw [h1.1];exact hb) hs.1),fun x=>?_,h3,h4,by omega⟩;rw [<-h2,<-Ed m i j h4 hj (pR dk) x];have e:pR dn=tR (m - i) (m+j - i) i (pR dk):=funext hs.2;rw [e]
theorem hJ.done {a m b i:Nat} {d dk dn:Array α} (h:hJ a m b d i i dk) (hb:b<=d.size) (hs:zq (m - i) m i dk dn):lY a m b d dn:=by
 obtain ⟨h1,h2,h3,h4,h5⟩:=h;refine ⟨permIn_trans _ _ _ _ _ h1 (permIn_mono _ _ _ _ _ _ h3 h5 (by rw [h1.1];exact hb) hs.1),fun x=>?_⟩;rw [<-h2,<-Eb m i h4 (pR dk) x];exact hs.2 x
theorem lY.one (a:Nat) (d:Array α):lY a (a+1) (a+1) d d:=⟨permIn_refl _ _ _,fun x=>(qF a (a+1) (pR d) x).symm⟩
theorem lY.up {a k:Nat} {d d':Array α} (h:lY a (a+1) (k+1) d d') (hk:a<=k) (hb:k+1<d.size):lY a (a+1) (k+2) d (swp d' k (k+1)):=by
 have hs:d'.size=d.size:=h.1.1;refine ⟨permIn_trans _ _ _ _ _ (permIn_mono _ _ _ _ _ _ (Nat.le_refl _) (by omega) (by omega) h.1) (swp_permIn _ _ _ _ _ (by omega) (by omega) (by omega) (by omega) (by omega)),fun x=>?_⟩;rw [Go.Sort.swp_get d' (by omega) (by omega),<-Ee a k hk (pR d) x,h.2,h.2,h.2]
theorem lY.none (m b:Nat) (d:Array α):lY m m b d d:=⟨permIn_refl _ _ _,fun x=>(Bp m b (pR d) x).symm⟩
theorem lY.down {k m:Nat} {d d':Array α} (h:lY (k+1) m (m+1) d d') (hk:k+1<=m) (hb:m<d.size):lY k m (m+1) d (swp d' (k+1) k):=by
 have hs:d'.size=d.size:=h.1.1;refine ⟨permIn_trans _ _ _ _ _ (permIn_mono _ _ _ _ _ _ (by omega) (Nat.le_refl _) (by omega) h.1) (swp_permIn _ _ _ _ _ (by omega) (by omega) (by omega) (by omega) (by omega)),fun x=>?_⟩;rw [Go.Sort.swp_get d' (by omega) (by omega),<-Bo k m hk (pR d) x,h.2,h.2,h.2]
def mY (lt:α->α->Bool) (a b:Nat) (d d':Array α):Prop:=PermIn a b d d'/\SortedIn lt a b d'
omit [Inhabited α] in
theorem du (hS:SWO lt) {x y z:α} (h1:lt y x=false) (h2:lt z y=false):lt z x=false:=hS.ntrans z y x h2 h1
theorem bq (hS:SWO lt) {a b:Nat} {d:Array α} (h:SortedIn lt a b d) {i j:Nat} (hi:a<=i) (hij:i<=j) (hj:j<b):lt d[j]! d[i]! = false:=by
 by_cases e:i=j
 ·subst e;exact hS.irrefl _
 ·exact h i j hi (by omega) hj
theorem Az (hS:SWO lt) {a i b:Nat} {d d':Array α} (hR:lY a (a+1) i d d') (hi:a+1<=i) (hib:i<=b) (hbs:b<=d.size) (hs:SortedIn lt (a+1) b d) (h1:∀ x,a+1<=x->x<i->lt d[x]! d[a]! = true) (h2:∀ x,i<=x->x<b->lt d[x]! d[a]! = false):mY lt a b d d':=by
 refine ⟨permIn_mono _ _ _ _ _ _ (Nat.le_refl _) hib hbs hR.1,fun p q hp hpq hq=>?_⟩;rw [hR.2,hR.2];unfold dN pR;by_cases c1:q<i - 1
 ·rw [if_pos (by omega),if_pos (by omega)];exact bq hS hs (by omega) (by omega) (by omega)
 ·by_cases c2:q=i - 1
  ·rw [if_neg (by omega),if_pos (by omega),if_pos (by omega)];have e:q - (i - (a+1))=a:=by omega
   rw [e];exact hS.asymm (h1 _ (by omega) (by omega))
  ·by_cases c3:p<i - 1
   ·rw [if_neg (by omega),if_neg (by omega),if_pos (by omega)];exact bq hS hs (by omega) (by omega) (by omega)
   ·by_cases c4:p=i - 1
    ·rw [if_neg (by omega),if_neg (by omega),if_neg (by omega),if_pos (by omega)];rw [show p - (i - (a+1))=a by omega];exact h2 q (by omega) hq
    ·rw [if_neg (by omega),if_neg (by omega),if_neg (by omega),if_neg (by omega)];exact bq hS hs (by omega) (by omega) (by omega)
theorem yl (hS:SWO lt) {a i m:Nat} {d d':Array α} (hR:lY i m (m+1) d d') (hi:a<=i) (him:i<=m) (hbs:m+1<=d.size) (hs:SortedIn lt a m d) (h1:∀ x,a<=x->x<i->lt d[m]! d[x]! = false) (h2:∀ x,i<=x->x<m->lt d[m]! d[x]! = true):mY lt a (m+1) d d':=by
 refine ⟨permIn_mono _ _ _ _ _ _ hi (Nat.le_refl _) hbs hR.1,fun p q hp hpq hq=>?_⟩;rw [hR.2,hR.2];unfold dN pR;by_cases c1:q<i
 ·rw [if_neg (by omega),if_neg (by omega),if_neg (by omega),if_neg (by omega)];exact bq hS hs (by omega) (by omega) (by omega)
 ·by_cases c2:q=i
  ·rw [if_pos (by omega),if_neg (by omega),if_neg (by omega)];rw [show q+(m - i)=m by omega];exact h1 p hp (by omega)
  ·by_cases c3:p<i
   ·rw [if_neg (by omega),if_pos (by omega),if_neg (by omega),if_neg (by omega)];exact bq hS hs (by omega) (by omega) (by omega)
   ·by_cases c4:p=i
    ·rw [if_neg (by omega),if_pos (by omega),if_pos (by omega)];rw [show p+(m - i)=m by omega];exact hS.asymm (h2 _ (by omega) (by omega))
    ·rw [if_neg (by omega),if_pos (by omega),if_neg (by omega),if_pos (by omega)];exact bq hS hs (by omega) (by omega) (by omega)
structure zr (lt:α->α->Bool) (a m b mid s:Nat) (d:Array α):Prop where
 h1:a<=s
 h2:s<=m
 h3:s<=mid
 h4:m<=mid+m - s
 h5:mid+m - s<=b
 low:(mid<m/\s=mid+m - b)\/(m<=mid/\s=a)\/(a<s/\mid+m - s<b/\lt d[mid+m - s]! d[s - 1]! = false)
 high:(mid<m/\s=mid)\/(m<=mid/\s=m)\/(s<m/\m<mid+m - s/\lt d[mid+m - s - 1]! d[s]! = true)
theorem yk (hS:SWO lt) {a m b mid s:Nat} {d d1 d2 d3:Array α} (ham:a<m) (hmb:m<b) (hmid:mid=(a+b) / 2) (hb:b<=d.size) (hl:SortedIn lt a m d) (hr:SortedIn lt m b d) (hc:zr lt a m b mid s d)
  (hR:lY s m (mid+m - s) d d1) (h2:mY lt a mid d1 d2) (h3:mY lt mid b d2 d3):mY lt a b d d3:=by
 obtain ⟨c1,c2,c3,c4,c5,cl,ch⟩:=hc;have hs1:d1.size=d.size:=hR.1.1;have hs2:d2.size=d.size:=h2.1.1.trans hs1;have p1:PermIn a b d d1:=permIn_mono _ _ _ _ _ _ c1 c5 hb hR.1;have p2:PermIn a b d1 d2:=permIn_mono _ _ _ _ _ _ (Nat.le_refl _) (by omega) (by omega) h2.1;have p3:PermIn a b d2 d3:=permIn_mono _ _ _ _ _ _ (by omega) (Nat.le_refl _) (by omega) h3.1;refine ⟨permIn_trans _ _ _ _ _ (permIn_trans _ _ _ _ _ p1 p2) p3,fun p q hp hpq hq=>?_⟩
 have cross1:∀ i j,a<=i->i<mid->mid<=j->j<b->lt d1[j]! d1[i]! = false:=by
  intro i j hi1 hi2 hj1 hj2;rw [hR.2,hR.2];unfold dN pR;have ll:∀ i j,a<=i->i<s->s<=j->j<m->lt d[j]! d[i]! = false:=fun i j h1 h2 h3 h4=>bq hS hl h1 (by omega) h4
  have rr:∀ i j,m<=i->i<mid+m - s->mid+m - s<=j->j<b->lt d[j]! d[i]! = false:=fun i j h1 h2 h3 h4=>bq hS hr h1 (by omega) h4
  have lr:∀ i j,a<=i->i<s->mid+m - s<=j->j<b->lt d[j]! d[i]! = false:=by
   intro i j h1 h2 h3 h4;rcases cl with cl | cl | cl
   ·omega
   ·omega
   ·exact du hS (du hS (bq hS hl h1 (show i<=s - 1 by omega) (by omega)) cl.2.2) (bq hS hr (by omega) h3 h4)
  have rl:∀ i j,m<=i->i<mid+m - s->s<=j->j<m->lt d[j]! d[i]! = false:=by
   intro i j h1 h2 h3 h4;rcases ch with ch | ch | ch
   ·omega
   ·omega
   ·exact du hS (du hS (bq hS hr h1 (show i<=mid+m - s - 1 by omega) (by omega)) (hS.asymm ch.2.2)) (bq hS hl (by omega) h3 h4)
  by_cases k1:i<s
  ·have ei:(if s<=i/\i<s+(mid+m - s - m) then d[i+(m - s)]! else if s+(mid+m - s - m)<=i/\i<mid+m - s then d[i - (mid+m - s - m)]! else d[i]!)=d[i]!:=by rw [if_neg (by omega),if_neg (by omega)]
   rw [ei];by_cases k2:j<mid+m - s
   ·rw [if_neg (by omega),if_pos (by omega)];exact ll _ _ hi1 k1 (by omega) (by omega)
   ·rw [if_neg (by omega),if_neg (by omega)];exact lr _ _ hi1 k1 (by omega) hj2
  ·have ei:(if s<=i/\i<s+(mid+m - s - m) then d[i+(m - s)]! else if s+(mid+m - s - m)<=i/\i<mid+m - s then d[i - (mid+m - s - m)]! else d[i]!)=d[i+(m - s)]!:=by rw [if_pos (by omega)]
   rw [ei];by_cases k2:j<mid+m - s
   ·rw [if_neg (by omega),if_pos (by omega)];exact rl _ _ (by omega) (by omega) (by omega) (by omega)
   ·rw [if_neg (by omega),if_neg (by omega)];exact rr _ _ (by omega) (by omega) (by omega) hj2
 have cross2:∀ i j,a<=i->i<mid->mid<=j->j<b->lt d2[j]! d2[i]! = false:=by
  intro i j hi1 hi2 hj1 hj2;rw [h2.1.2.1 j (by omega)];exact permIn_all d1 d2 a mid (fun x=>lt d1[j]! x=false) (by omega) h2.1 (fun i h1 h2=>cross1 i j h1 h2 hj1 hj2) i hi1 hi2
 have cross3:∀ i j,a<=i->i<mid->mid<=j->j<b->lt d3[j]! d3[i]! = false:=by
  intro i j hi1 hi2 hj1 hj2;rw [h3.1.2.1 i (by omega)];exact permIn_all d2 d3 mid b (fun x=>lt x d2[i]! = false) (by omega) h3.1 (fun j h1 h2=>cross2 i j hi1 hi2 h1 h2) j hj1 hj2
 by_cases k1:q<mid
 ·have s3:∀ x,x<mid->d3[x]! = d2[x]!:=fun x hx=>h3.1.2.1 x (by omega)
  rw [s3 q k1,s3 p (by omega)];exact h2.2 p q hp hpq k1
 ·by_cases k2:p<mid
  ·exact cross3 p q hp k2 (by omega) hq
  ·exact h3.2 p q (by omega) hpq hq
end
end
end Go.Proofs.YtofibjflkebkpaaGreatDoor
