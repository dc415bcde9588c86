import Derived.Test.YtofibjflkebkpaaGreatDoorEQ1
import Derived.Deep.RegionHeld3
import Derived.Deep.AppendLies
import Derived.Deep.RegionLaw
import Derived.IntWalk
import Derived.StillTailTactics
import Derived.RegionTactic
import Derived.BigRegion
import Derived.ChangeAlike
import Derived.Sort.LotD2
import Derived.Sort.LotA
set_option maxRecDepth 100000
set_option maxHeartbeats 16000000
namespace Go.Proofs.YtofibjflkebkpaaGreatDoor
open Go.RowKit
theorem vI:(Tryz.prog.info? 106).map (fun i=>(i.zero,i.size,i.bytes))=some (some (.agg #[.int .i64 0,.int .i64 0,.slice none 0 0]),3,40):=by kernel_rfl
def BX (w:World) (v:Value) (ks:List Int):Prop :=
 ∃ (a:Option Addr) (c:Nat),v=.slice a ks.length c/\(ks.length<=c/\(a=none->c=0))/\ks.length<=140737488355328 /\
  ∀ i (h:i<ks.length),∃ b o,a=some ⟨b,o,none⟩/\∃ (u1:Int) (sa:Option Addr) (sn sc:Nat),w.cell? ⟨b,o+i*3,none⟩=some (.int .i64 ks[i])/\w.cell? ⟨b,o+i*3+1,none⟩=some (.int .i64 u1)/\w.cell? ⟨b,o+i*3+2,none⟩=some (.slice sa sn sc)
def ke (w:World) (B:Nat) (v:Value) (ks:List Int):Prop :=
 ∃ cells,w.ownsRow B 106 3 v ks.length cells/\ks.length<=100000/\∀ i (h:i<ks.length),cells[i*3]?=some (.int .i64 ks[i])/\∃ (u1:Int) (sa:Option Addr) (sn sc:Nat),cells[i*3+1]?=some (.int .i64 u1)/\cells[i*3+2]?=some (.slice sa sn sc)
theorem ke.at {w:World} {B:Nat} {v:Value} {ks:List Int} (h:ke w B v ks):BX w v ks:=by
 obtain ⟨cells,⟨h1,h2⟩,h3,h4⟩:=h;rcases h2 with ⟨rfl,h5⟩ | ⟨g,cap,cur,rfl,h5,h6,h7,h8,h9,ag⟩
 ·have:ks=[]:=List.eq_nil_of_length_eq_zero h5
  subst this;exact ⟨none,0,rfl,⟨by simp,fun _=>rfl⟩,by simp,fun i h=>by simp at h⟩
 ·refine ⟨_,cap,rfl,⟨h7,fun h=>by cases h⟩,by omega,fun i hi=>⟨g,0,rfl,?_⟩⟩
  have key:∀ j,j<ks.length*3->w.cell? ⟨g,j,none⟩=cells[j]?:=by
   intro j hj;have e1:(cur.toList.take (ks.length*3))[j]?=cells[j]?:=by rw [ag]
   rw [List.getElem?_take_of_lt hj] at e1;simp only [World.cell?,h6];simpa using e1
  obtain ⟨e0,u1,sa,sn,sc,e1,e2⟩:=h4 i hi;refine ⟨u1,sa,sn,sc,?_,?_,?_⟩
  ·rw [Nat.zero_add,key _ (by omega)];exact e0
  ·rw [Nat.zero_add,key _ (by omega)];exact e1
  ·rw [Nat.zero_add,key _ (by omega)];exact e2
def iB (V:Nat) (mark:List Bool) (nodes:List Nd):Nat->List Int
 | 0=>[]
 | k+1=>if mark.getD (V+k) false then iB V mark nodes k++[(nodes.getD k iZ).kind] else iB V mark nodes k
theorem sq (V:Nat) (mark:List Bool) (nodes:List Nd) (k:Nat):(iB V mark nodes k).length<=k:=by
 induction k with
 | zero=>simp [iB]
 | succ k ih =>
  unfold iB;split
  ·simp;omega
  ·omega
structure TInv (w1 w3 wr:World) (g V n:Nat) (ov:Value) (tl:List Int) (ks:List Int) (mark:List Bool):Prop where
 tlen:tl.length=V+n
 row:gS wr (w1.heap.size+1) 3 (tl.map (.int .i64))
 box:gS wr w1.heap.size 41 [.int .i64 V,ov,.int .i64 0]
 own:ke wr w3.heap.size ov ks
 marks:gS wr g 4 (mark.map .bool)
 kept:gO w1 wr
 size:w3.heap.size<=wr.heap.size
def CG (V n k:Nat):List Int:=(List.range k).map (fun i:Nat=>(i:Int))++List.replicate (V+n - k) 0
theorem zQ (V n k:Nat) (h:k<V):(CG V n k).set k (k:Int)=CG V n (k+1):=by
 unfold CG;rw [List.set_append_right _ _ (by simp),List.range_succ,List.map_append,show V+n - k=(V+n - (k+1))+1 by omega,List.replicate_succ];simp
theorem sZ (V n k:Nat) (h:k<=V):(CG V n k).length=V+n:=by simp [CG];omega
theorem x_ {wo wr w5:World} {kd kk z:Int} {uv nv:Value} {ys:List Int} {o:Obj} (ag:OwnInts wr (wo.heap.size+2) uv ys) (ai:gS wr (wo.heap.size+1) 106 [.int .i64 kd,.int .i64 kk,uv]) (hK:gO wo wr) (hsz:wo.heap.size+2<=wr.heap.size) (am:ys.length<=1000)
  (h5:w5.ownsRow (wo.heap.size+2) 3 1 nv (ys.length+1) (ys.map (Value.int .i64)++[.int .i64 z])) (hg:(wr.alloc o).grownBy w5 uv.ownBlock) :
  OwnInts (w5.setCell ⟨wo.heap.size+1,2,none⟩ nv) (wo.heap.size+2) nv (ys++[z])/\gS (w5.setCell ⟨wo.heap.size+1,2,none⟩ nv) (wo.heap.size+1) 106 [.int .i64 kd,.int .i64 kk,nv]/\gO wo (w5.setCell ⟨wo.heap.size+1,2,none⟩ nv)/\wo.heap.size+2<=(w5.setCell ⟨wo.heap.size+1,2,none⟩ nv).heap.size:=by
 have aj:some (wo.heap.size+1)≠uv.ownBlock:=by
  intro e;have:=(ag.1.lt _ e.symm).1;omega
 have hb:w5.heap[wo.heap.size+1]?=wr.heap[wo.heap.size+1]?:=(hg.block _ (by simp;omega) aj).trans (Below.heap_alloc wr o _ (by omega));have ah:=iD hg (ag.1.alloc o) (by simp;omega);have al:gO wo w5:=(hK.alloc o).app (ah.mono (by omega));refine ⟨⟨?_,by simp;omega⟩,?_,al.store (by omega) _ _,?_⟩
 ·have:=ownsRow_setCell_below h5 (a:=⟨wo.heap.size+1,2,none⟩) (by show wo.heap.size+1<_;omega) nv;simpa using this
 ·have:=(ai.same hb).store 2 nv;simpa using this
 ·have h1:=ah.size;simp at h1;simp [World.setCell];omega
theorem sz {w:World} {b o:Nat} {cs:List Value} (h:w.rangeAt b o cs) {p:Nat} (hp:b≠p) (i:Nat) (u:Value):(w.setCell ⟨p,i,none⟩ u).rangeAt b o cs :=
 fun j v hj=>pE (h j v hj) hp i u
theorem EF {ops:Array Oper} {rest:List Oper} {o:Oper} {a:Act} {Q:Exit->Act->World->Prop} {w:World} (am:o.guard=none) (s x:Operand)
  (ho:o.op=.call { callee:=.builtin .append,args:=#[s,x],argTypes:=#[39,39] }) (B:Nat) (v:Value) (ks:List Int) (hs:a.eval s=v) (ai:ke w B v ks)
  (g:Nat) (kd x1:Int) (sa:Option Addr) (sn sc:Nat) (hx:a.eval x=.slice (some ⟨g,0,none⟩) 1 1) (hc:w.rangeAt g 0 [.int .i64 kd,.int .i64 x1,.slice sa sn sc]) (hl:ks.length<100000) (hB:B<=w.heap.size)
  (h:∀ v' w',ke w' B v' (ks++[kd])->w.grownBy w' v.ownBlock->Below B w w'->wpList Tryz.prog ops Q rest (a.put o.dst v') w'):wpList Tryz.prog ops Q (o :: rest) a w:=by
 obtain ⟨i0,ap,aq,ar,aw⟩:=info_parts vI;obtain ⟨cells,ag,ay,ah⟩:=ai;refine wpList_append_own _ am s x 39 ho B 106 i0 _ 3 40 Tryz.underlying39 ap aq ar aw rfl (by decide) v ks.length cells hs ag ⟨g,0,none⟩ 1 1 [.int .i64 kd,.int .i64 x1,.slice sa sn sc] hx rfl ?_ ?_ (by unfold maxLen;omega) (by omega) hB ?_
 ·intro j u hj;have:=hc j u hj;rw [Addr.add_mid];exact this
 ·intro u hu;simp at hu;rcases hu with rfl | rfl | rfl <;> rfl
 ·intro v' w' h3 h4 _;refine h v' w' ⟨cells++[.int .i64 kd,.int .i64 x1,.slice sa sn sc],by simpa using h3,by simp;omega,?_⟩ h4 (iD h4 ag hB);intro i hi;simp at hi;have aj:cells.length=ks.length*3:=ag.1;by_cases al:i<ks.length
  ·obtain ⟨e0,u1,ua,un,uc,e1,e2⟩:=ah i al;refine ⟨?_,u1,ua,un,uc,?_,?_⟩
   ·rw [List.getElem?_append_left (by omega),e0,List.getElem_append_left al]
   ·rw [List.getElem?_append_left (by omega),e1]
   ·rw [List.getElem?_append_left (by omega),e2]
  ·have e:i=ks.length:=by omega
   subst e;refine ⟨?_,x1,sa,sn,sc,?_,?_⟩
   ·rw [List.getElem?_append_right (by omega),aj];simp
   ·rw [List.getElem?_append_right (by omega),aj];simp
   ·rw [List.getElem?_append_right (by omega),aj];simp
theorem nW (w:World) (x0 x1 x2:Value) (e:TypeId):(w.alloc (.cells #[x0,x1,x2] e)).rangeAt w.heap.size 0 [x0,x1,x2]:=by
 have h:=gS.made w #[x0,x1,x2] e;intro j v hj
 match j,hj with
 | 0,hj=>simp at hj;subst hj;exact h.cell (i:=0) (by simp)
 | 1,hj=>simp at hj;subst hj;exact h.cell (i:=1) (by simp)
 | 2,hj=>simp at hj;subst hj;exact h.cell (i:=2) (by simp)
theorem tz {w:World} {a:Addr} (h:w.frozen? a=false) {p:Nat} (hp:a.block≠p) (i:Nat) (u:Value):(w.setCell ⟨p,i,none⟩ u).frozen? a=false :=
 (World.frozen?_of_block (w:=w) (Below.heap_setCell w ⟨p,i,none⟩ u a.block hp)).trans h
theorem gO.free {w w':World} (h:gO w w') {p:Addr} (hp:p.block<w.heap.size) (hf:w.frozen? p=false):w'.frozen? p=false:=(Below.frozen h hp).trans hf
theorem sy (w:World) (a:Addr) (u x0 x1 x2:Value) (e:TypeId):((w.setCell a u).alloc (.cells #[x0,x1,x2] e)).rangeAt w.heap.size 0 [x0,x1,x2]:=by
 have h:=nW (w.setCell a u) x0 x1 x2 e
 rwa [show (w.setCell a u).heap.size=w.heap.size by simp [World.setCell]] at h
theorem ke.kept {w w':World} {B:Nat} {v:Value} {ks:List Int} (h:ke w B v ks) (hk:gO w w'):ke w' B v ks:=by
 obtain ⟨cells,h1,h2⟩:=h;exact ⟨cells,lT h1 hk,h2⟩
theorem ke.below {w:World} {B:Nat} {v:Value} {ks:List Int} (h:ke w B v ks) {a:Addr} (ha:a.block<B) (u:Value):ke (w.setCell a u) B v ks:=by
 obtain ⟨cells,h1,h2⟩:=h;exact ⟨cells,ownsRow_setCell_below h1 ha u,h2⟩
theorem Fq {w1 w3 wo wr w6:World} {g V n k:Nat} {ov nv:Value} {tl ks:List Int} {R:List Bool} {kd t:Int} {cs:Array Value} (hI:TInv w1 w3 wo g V n ov tl ks R) (hK:gO wo wr) (h1:w1.heap.size+1<w3.heap.size) (hg:w1.heap.size+1<g) (am:g<w3.heap.size)
  (h6:ke w6 w3.heap.size nv (ks++[kd])) (ag:((wr.setCell ⟨w1.heap.size+1,k,none⟩ (.int .i64 t)).alloc (.cells cs 106)).grownBy w6 ov.ownBlock) :
  TInv w1 w3 (w6.setCell ⟨w1.heap.size,1,none⟩ nv) g V n nv (tl.set k t) (ks++[kd]) R:=by
 have hs:=hK.size;have ap:=hI.size
 have ah:∀ j,j<w3.heap.size->some j≠ov.ownBlock:=by
  intro j hj e;obtain ⟨cells,ho,_⟩:=hI.own;have:=(ho.lt _ e.symm).1;omega
 have hb:∀ j,j<w3.heap.size->w6.heap[j]?=(wr.setCell ⟨w1.heap.size+1,k,none⟩ (.int .i64 t)).heap[j]?:=by
  intro j hj;have l1:(wr.setCell ⟨w1.heap.size+1,k,none⟩ (.int .i64 t)).heap.size=wr.heap.size:=by simp [World.setCell]
  exact (ag.block j (by simp;omega) (ah j hj)).trans (Below.heap_alloc _ _ j (by omega))
 have ai:=(hI.row.kept hK).store k (.int .i64 t);rw [<-List.map_set] at ai;have aj:=((hI.box.kept hK).other (p:=w1.heap.size+1) (by omega) k (.int .i64 t));have al:=((hI.marks.kept hK).other (p:=w1.heap.size+1) (by omega) k (.int .i64 t));refine ⟨by rw [List.length_set];exact hI.tlen,?_,?_,h6.below (by show w1.heap.size<_;omega) _,?_,?_,?_⟩
 ·exact (ai.same (hb _ (by omega))).other (by omega) _ _
 ·have:=(aj.same (hb _ (by omega))).store 1 nv;simpa using this
 ·exact (al.same (hb _ (by omega))).other (by omega) _ _
 ·have l1:(wr.setCell ⟨w1.heap.size+1,k,none⟩ (.int .i64 t)).heap.size=wr.heap.size:=by simp [World.setCell]
  have k1:gO w1 (wr.setCell ⟨w1.heap.size+1,k,none⟩ (.int .i64 t)):=(hI.kept.trans hK).store (by omega) _ _;have k2:gO w1 w6:=(k1.alloc _).app ⟨ag.os,ag.tape,ag.output,ag.size,fun j hj=>ag.block j (by simp;omega) (ah j (by omega))⟩;exact k2.store (Nat.le_refl _) _ _
 ·have l1:(wr.setCell ⟨w1.heap.size+1,k,none⟩ (.int .i64 t)).heap.size=wr.heap.size:=by simp [World.setCell]
  have:=ag.size;simp at this;simp [World.setCell] at this⊢;omega
theorem GR (v:Value) (f:Fm) (V T:Nat) (w:World) (hv:ii w v f.nodes) (am:Ok f V T) (bd:jP f=0) :
  Calls Tryz.prog 81 #[.agg #[.int .i64 V,v,.int .i64 T]] w fun e w'=>∃ tv,∃ top:Int,e=.returned (.tuple #[.agg #[.int .i64 V,tv,.int .i64 top],.nilIface])/\BX w' tv (iB V (io V T f.nodes) f.nodes f.nodes.length)/\gO w w':=by
 have az:=mf v f w hv (by rw [am.top];have:=am.tlt;have:=am.n128;have:=am.v24;omega);rw [bd] at az;unfold ot at az;rw [am.vars,am.top] at az;have bf:=af (fun W (hk:gO w W)=>mf v f W (hv.kept hk) (by rw [am.top];have:=am.tlt;have:=am.n128;have:=am.v24;omega));have bF:=af (fun W (hk:gO w W)=>vl v f V T W (hv.kept hk) am);have HV:=af hv;obtain ⟨a,c,rfl,_,hl,hx⟩:=hv;obtain ⟨n,hn⟩:∃ n,n=f.nodes.length:=⟨_,rfl⟩;rw [<-hn] at hl bf bF;have cQ:n<=128:=by rw [hn];exact am.n128
 have cR:=am.v24;have cS:T<V+n:=by rw [hn];exact am.tlt
 have E1:=af (show ot (.slice a n c) f=.agg #[.int .i64 V,.slice a n c,.int .i64 T] by unfold ot;rw [am.vars,am.top]);have aK:∀ W,gO w W->Calls Tryz.prog 30 #[.agg #[.int .i64 V,.slice a n c,.int .i64 T]] W fun e w'=>e=.returned (iV (jP f))/\gO W w':=fun W hk=>by have:=bf.out W hk;rw [E1.out] at this;exact this
 have bh:=af aK;clear aK;clear bf E1;have E2:=af (show iV (jP f)=.nilIface by rw [bd];rfl);have HX:=af hx;have HN:=af hn;have HO:=af am;rw [<-hn];clear hx hn am hl bd az;go_enter Tryz.func81,Tryz.ntmps81
 go_wp2_with (first
  | (go_at_call 30;refine (bh.out _ (((gO.refl _).alloc _).alloc _)).mono ?_;rintro e w1 ⟨rfl,aC⟩;rw [E2.out];have ci:=aC.size;simp only [World.size_alloc] at ci;have ls0:w.heap.size<w1.heap.size:=(by omega);have ls1:w.heap.size+1<w1.heap.size:=(by omega);have b0:=aC.cell (p:=⟨w.heap.size,0,none⟩) (v:=.int .i64 V) (by simp);have b1:=aC.cell (p:=⟨w.heap.size,1,none⟩) (v:=.slice a n c) (by simp);have b2:=aC.cell (p:=⟨w.heap.size,2,none⟩) (v:=.int .i64 T) (by simp))
  | (at_make;refine kg 22 3 _ 8 lS Tryz.underlying22 rfl rfl _ _ rfl (V+n) (by show Value.int .i64 ((V:Int)+(n:Int))=.int .i64 ((V+n:Nat):Int);rw [Int.natCast_add]) (by show Value.int .i64 ((V:Int)+(n:Int))=.int .i64 ((V+n:Nat):Int);rw [Int.natCast_add]) (by omega) (by unfold maxLen;omega) ?_;intro w2 bi bj;simp only [World.size_alloc] at bi;have cj:=af bi;clear bi;have bk:=(aC.trans ((gO.refl _).alloc _)).trans bj;have d0:=bk.cell (p:=⟨w.heap.size,0,none⟩) (v:=.int .i64 V) (by simp)))
 go_loopw [7,32] (fun _ i wr=>∃ k:Nat,k<=V/\i=.int .i64 k/\gS wr (w1.heap.size+1) 3 ((CG V n k).map (.int .i64))/\gO (w1.alloc (.cells #[.int .i64 V,.slice none 0 0,.int .i64 0] 41)) wr) (fun _ i _=>V - (intOf i).toNat)
 case atStart=>exact ⟨0,Nat.zero_le _,rfl,by simpa [CG] using cj.out,bj⟩
 case round =>
  clear bj;obtain ⟨k,hk,rfl,ag,hK⟩:=hrel;by_cases bG:k<V
  ·have cY:=ag.cell (i:=k) (by rw [List.length_map,sZ V n k hk];omega);have fY:=ag.free k;have aD:=ag.store k (.int .i64 k);have bH:=hK.store (g:=w1.heap.size+1) (by simp) k (.int .i64 k);have aY:(k:Int)<(V:Int)+(n:Int):=by omega
   have bl:(k:Int)<((V+n:Nat):Int):=by omega
   rw [<-List.map_set,zQ V n k bG] at aD;have ck:=af aD;have cn:=af bH;clear aD bH ag hK;go_wp2;go_roundw
   case rel=>exact ⟨k+1,by omega,by go_num,ck.out,cn.out⟩
   case measure=>simp [intOf];omega
  ·have e:k=V:=by omega
   have bI:=sZ V n k hk;obtain ⟨tl,aL⟩:∃ tl,tl=CG V n k:=⟨_,rfl⟩;rw [<-aL] at ag bI;have aM:=(aC.trans ((gO.refl _).alloc _)).trans hK;have bJ:gO w wr:=(((gO.refl w).alloc _).alloc _).trans aM;have q0:=aM.cell (p:=⟨w.heap.size,0,none⟩) (v:=.int .i64 V) (by simp);have q1:=aM.cell (p:=⟨w.heap.size,1,none⟩) (v:=.slice a n c) (by simp);have q2:=aM.cell (p:=⟨w.heap.size,2,none⟩) (v:=.int .i64 T) (by simp);have cq:=ag.lt;have bK:=af ag;have bL:=af hK;have cr:=af bJ;have cU:(V:Int)<=(V:Int)+(n:Int):=by omega
   have ct:(V:Int)<=((V+n:Nat):Int):=by omega
   clear e ag aM bJ hK aL;go_wp2
   go_region_held3 (fun w'=>w'.cell? ⟨w.heap.size,0,none⟩=some (.int .i64 V)/\w'.cell? ⟨w.heap.size,1,none⟩=some (.slice a n c)/\w'.cell? ⟨w.heap.size,2,none⟩=some (.int .i64 T))
    (first | go_keep | exact ⟨aI.cell q0,aI.cell q1,aI.cell q2⟩)
    (first | (go_at_call 136;refine (bF.out _ (cr.out.drew)).mono ?_;rintro e w3 ⟨g,rfl,hg,bo,aI⟩))
   obtain ⟨R,hR⟩:∃ R,R=io V T f.nodes:=⟨_,rfl⟩;rw [<-hR] at bo;have bM:=af bo;have bN:=af hR;have cu:g<w3.heap.size:=bM.out.lt;have cw:w1.heap.size+1<g:=by have h9:wr.heap.size<=g:=hg;omega
   have aF:gO (w1.alloc (.cells #[.int .i64 V,.slice none 0 0,.int .i64 0] 41)) w3:=bL.out.trans ((gO.refl wr).drew.trans aI);have aB:TInv w1 w3 w3 g V n (.slice none 0 0) tl [] R:=⟨bI,bK.out.kept ((gO.refl wr).drew.trans aI),(gS.made w1 _ _).kept aF,⟨[],World.ownsRow_nil _ _ _ _,by simp,fun i h=>by simp at h⟩,bM.out,((gO.refl w1).alloc _).trans aF,Nat.le_refl _⟩;have aN:=af aB;have aG:=af aC;clear hR bo aB aF aI q0 q1 q2 bK bL hg;by_cases cz:n=0
   ·subst cz;have ai:=aG.out.trans aN.out.kept;have ap:=aN.out.box;have d0:=ai.cell (p:=⟨w.heap.size,0,none⟩) (v:=.int .i64 V) (by simp);have d2:=ai.cell (p:=⟨w.heap.size,2,none⟩) (v:=.int .i64 T) (by simp);have c0:=ap.cell (i:=0) (by simp);have c1:=ap.cell (i:=1) (by simp);have c2:=ap.cell (i:=2) (by simp);have f2:=ap.free 2;have bp:T<tl.length:=by rw [aN.out.tlen];omega
    obtain ⟨zt,cT⟩:∃ z:Int,w3.cell? ⟨w1.heap.size+1,T,none⟩=some (.int .i64 z):=⟨tl[T],by have:=aN.out.row.cell (i:=T) (by simpa using bp);rw [List.getElem_map] at this;exact this⟩;have aY:(T:Int)<(V:Int):=by omega
    have ah:gS w3 (w.heap.size+1) 41 [.int .i64 0,.slice none 0 0,.int .i64 0]:=by
     have:=(gS.made (w.alloc (.cells #[.int .i64 V,.slice a 0 c,.int .i64 T] 41)) #[.int .i64 0,.slice none 0 0,.int .i64 0] 41).kept ai;simpa using this
    have r0:=ah.cell (i:=0) (by simp);have r1:=ah.cell (i:=1) (by simp);have r2:=ah.cell (i:=2) (by simp);have s0:=ah.free 0;have s1:=ah.free 1;have s2:=ah.free 2;simp only [List.getElem_cons_succ,List.getElem_cons_zero] at r0 r1 r2 c0 c1 c2;have ne1:w1.heap.size≠w.heap.size+1:=by omega
    have ne2:w.heap.size+1≠w1.heap.size:=by omega
    clear ap ah;go_wp2;refine wp_loop_rounds 1 ?_;rw [rounds_succ];go_wp2;refine bodyPost_ret (v:=.tuple #[.agg #[.int .i64 V,.slice none 0 0,.int .i64 zt],.nilIface]) ?_ rfl ⟨_,_,rfl,?_,?_⟩
    ·simp [results,Tryz.results81,go_sem,r0,r1,r2]
    ·exact ⟨none,0,rfl,⟨by simp [iB],fun _=>rfl⟩,by simp [iB],fun i h=>by simp [iB] at h⟩
    ·have aA:gO w w3:=(((gO.refl w).alloc _).alloc _).trans ai;exact (((aA.store (by omega) _ _).store (by omega) _ _).store (by omega) _ _).store (by omega) _ _
   ·have cV:0<n:=by omega
    have cW:V<V+n:=by omega
    go_wp2;go_loopw [8,9,10,11,13,46,66] (fun _ _ _ _ _ i _ wr=>∃ (k:Nat) (ov:Value) (tl:List Int),k<=n/\i=.int .i64 k/\TInv w1 w3 wr g V n ov tl (iB V R f.nodes k) R) (fun _ _ _ _ _ i _ _=>n - (intOf i).toNat)
    case atStart=>exact ⟨0,_,tl,Nat.zero_le _,rfl,aN.out⟩
    case round =>
     obtain ⟨k,ov,tl,hk,rfl,aj⟩:=hrel;have ai:=aG.out.trans aj.kept;have q0:=ai.cell (p:=⟨w.heap.size,0,none⟩) (v:=.int .i64 V) (by simp);have q1:=ai.cell (p:=⟨w.heap.size,1,none⟩) (v:=.slice a n c) (by simp);have q2:=ai.cell (p:=⟨w.heap.size,2,none⟩) (v:=.int .i64 T) (by simp);by_cases bG:k<n
     ·have cX:R.length=V+n:=by rw [bN.out,mr,HN.out]
      have cm:=aj.marks.cell (i:=V+k) (by simp;omega);rw [jh R (V+k) (by omega)] at cm;have bO:iB V R f.nodes (k+1)=if R.getD (V+k) false then iB V R f.nodes k++[(f.nodes.getD k iZ).kind] else iB V R f.nodes k:=rfl
      have bq:=af bO;clear bO;cases aJ:R.getD (V+k) false with
      | false =>
       rw [aJ] at cm;have br:=af aJ;have HI:=af aj;clear aJ aj ai;go_wp2;go_roundw
       case rel=>exact ⟨k+1,ov,tl,by omega,by go_num,by rw [bq.out,br.out];exact HI.out⟩
       case measure=>simp [intOf];omega
      | true =>
       rw [aJ] at cm;have br:=af aJ;have HI:=af aj;clear aJ aj;have aZ:k<f.nodes.length:=by have:=HN.out;omega
       obtain ⟨b,o,rfl,u,hc1,hc2,bP,hI⟩:=HX.out k aZ;have aA:gO w wr:=(((gO.refl w).alloc (.cells #[.int .i64 V,.slice (some ⟨b,o,none⟩) n c,.int .i64 T] 41)).alloc (.cells #[.int .i64 0,.slice none 0 0,.int .i64 0] 41)).trans ai;have aq:=jL (aA.cell hc1) (aA.cell hc2) (aA.cell bP);obtain ⟨ax,cx,rfl,_,bQ,bt⟩:=hI;have cC:=af aq;clear hc1 hc2 bP aq;go_wp2_with (with_reducible refine wpList_load_mid rfl 106 _ rfl b (o+k*3) rfl _ _ cC.out Tryz.underlying106 rfl (by kernel_rfl) ?_);obtain ⟨kd,hkd⟩:∃ x,x=f.nodes[k].kind:=⟨_,rfl⟩;obtain ⟨kk,bR⟩:∃ x,x=f.nodes[k].k:=⟨_,rfl⟩;have ar:=HO.out.args k aZ;have bS:=me (HO.out.argc k aZ);obtain ⟨args,bw⟩:∃ x,x=f.nodes[k].args:=⟨_,rfl⟩;rw [<-bw] at bt ar bQ bS;rw [<-hkd,<-bR,<-bw];obtain ⟨na,bz⟩:∃ x,x=args.length:=⟨_,rfl⟩;rw [<-bz] at bQ bS⊢;have cD:=af hkd;have cE:=af bt;have cF:=af ar;have cG:=af bz;have cH:=af aA;obtain ⟨i0,bT,bU,bV,bW⟩:=info_parts lS;have I0:=af bT;have I1:=af bU;have I2:=af bV;have I3:=af bW;have sz1:w1.heap.size+1<wr.heap.size:=HI.out.row.lt;obtain ⟨wo,rfl⟩:∃ wo:World,wo=wr:=⟨_,rfl⟩;clear hkd bR bw bt ar bz aA ai bT bU bV bW q0 q1 q2 cm;go_loopw [13,66] (fun _ j wi=>∃ (p:Nat) (uv:Value) (ys:List Int),p<=na/\j=.int .i64 p/\ys.length<=p/\OwnInts wi (wo.heap.size+2) uv ys/\gS wi (wo.heap.size+1) 106 [.int .i64 kd,.int .i64 kk,uv]/\gO wo wi/\wo.heap.size+2<=wi.heap.size) (fun _ j _=>na - (intOf j).toNat)
       case atStart=>exact ⟨0,.slice none 0 0,[],Nat.zero_le _,rfl,by simp,OwnInts.nil _ _,by have:=gS.made (wo.alloc (.cells #[.int .i64 kd,.int .i64 kk,.slice ax na cx] 106)) #[.int .i64 kd,.int .i64 kk,.slice none 0 0] 106;simpa using this,((gO.refl _).alloc _).alloc _,by simp⟩
       case round =>
        obtain ⟨p,uv,ys,hp,rfl,cZ,aw,ag,hK,hsz⟩:=hrel;by_cases c_:p<na
        ·have cI:p<args.length:=by have:=cG.out;omega
         obtain ⟨b2,o2,rfl,bX⟩:=cE.out p cI;have aO:=(cH.out.trans hK).cell bX;obtain ⟨y,hy⟩:∃ y,y=args[p]:=⟨_,rfl⟩;have bY:=cF.out args[p] (List.getElem_mem _);rw [<-hy] at aO bY;obtain ⟨Y,hY⟩:=Int.eq_ofNat_of_zero_le bY.1;subst hY;have cJ:Y<tl.length:=by rw [HI.out.tlen];omega
         have cT:=hK.cell (HI.out.row.cell (i:=Y) (by simpa using cJ));obtain ⟨z,hz⟩:∃ z,z=tl[Y]:=⟨_,rfl⟩;simp only [List.getElem_map] at cT;rw [<-hz] at cT;have aY:(Y:Int)<(V:Int)+(n:Int):=by omega
         have bl:(Y:Int)<((V+n:Nat):Int):=by omega
         have cB:=ag.cell (i:=2) (by simp);have fB:=ag.free 2;simp only [List.getElem_cons_succ,List.getElem_cons_zero] at cB;have cK:wo.heap.size+1<wr.heap.size:=by omega
         have cL:w1.heap.size+1<wr.heap.size:=by omega
         have aP:=af aw;have bA:=af ag;have HK:=af hK
         have aQ:some (wo.heap.size+1)≠uv.ownBlock:=by
          intro e;have:=(aw.1.lt _ e.symm).1;omega
         have aR:=af aQ;clear bX hy hz aw ag hK aQ;go_wp2;go_region_law ((refine step_append_lies _ (by rfl) _ _ _ (by rfl) (wo.heap.size+2) 3 i0 _ 1 8 Tryz.underlying22 I0.out I1.out I2.out I3.out rfl (by omega) uv ys.length _ (by rfl) ((aP.out.1.alloc _).drew) ⟨wr.heap.size,0,none⟩ 1 1 [.int .i64 z] (by rfl) (by rfl) (World.news_of_block (cs:=#[.int .i64 z]) (t:=3) (fr:=(0,0)) (heap_alloc_new wr _)) (by simp [Value.oneCell']) (by omega) (by unfold maxLen;omega) (by omega) (by simp;omega) (wr.heap.size+1) (by simp) ?_;intro gg cap w5 aS al hat cM;have st5:=al.cell (a:=⟨wo.heap.size+1,2,none⟩) (v:=uv) (((gO.refl wr).alloc _).cell cB) aR.out;have sf5:=(World.frozen?_of_block (a:=⟨wo.heap.size+1,2,none⟩) (al.block (wo.heap.size+1) (by simp;omega) aR.out)).trans ((Below.frozen ((gO.refl wr).alloc _) (p:=⟨wo.heap.size+1,2,none⟩) (by simp;omega)).trans fB)));all_goals go_wp2
         all_goals
          have R:=x_ (o:=.cells #[.int .i64 z] 3) aP.out bA.out HK.out hsz (by omega) aS ⟨al.os,al.tape,al.output,al.size,al.block⟩;go_roundw
          case rel=>exact ⟨p+1,_,_,by omega,by go_num,by simp;omega,R.1,R.2.1,R.2.2.1,R.2.2.2⟩
          case measure=>simp [intOf];omega
        ·obtain ⟨ks,bZ⟩:∃ ks,ks=iB V R f.nodes k:=⟨_,rfl⟩;have b_:=sq V R f.nodes k;rw [<-bZ] at HI bq b_;have cN:=af (show ks.length<100000 by omega);have cd:=(aG.out.trans HI.out.kept).trans hK;have q0:=cd.cell (p:=⟨w.heap.size,0,none⟩) (v:=.int .i64 V) (by simp);have ap:=HI.out.box.kept hK;have c5:=ap.cell (i:=1) (by simp);have f5:=ap.free 1;have a_:=HI.out.row.kept hK;have cT:=a_.cell (i:=V+k) (by simp [HI.out.tlen];omega);have fT:=a_.free (V+k);have aY:(V:Int)+(k:Int)<(V:Int)+(n:Int):=by omega
         have bl:(V:Int)+(k:Int)<((V+n:Nat):Int):=by omega
         have szz:w1.heap.size<wr.heap.size:=by omega
         have aT:wr.rangeAt (wo.heap.size+1) 0 [.int .i64 kd,.int .i64 kk,uv]:=by
          intro j v hj
          match j,hj with
          | 0,hj=>simp at hj;subst hj;exact ag.cell (i:=0) (by simp)
          | 1,hj=>simp at hj;subst hj;exact ag.cell (i:=1) (by simp)
          | 2,hj=>simp at hj;subst hj;exact ag.cell (i:=2) (by simp)
         simp only [List.getElem_cons_succ,List.getElem_cons_zero] at c5;obtain ⟨oa,oc,bB,_⟩:=HI.out.own.at;subst bB;obtain ⟨on,bC⟩:∃ on,on=ks.length:=⟨_,rfl⟩;rw [<-bC] at HI c5 ap b_;obtain ⟨ua,un,uc,cO⟩:=aw.ints.shape;subst cO;have bD:=af (fun x=>sz aT (p:=w1.heap.size+1) (by omega) (V+k) x);have da:=af a_;have db:=af ap;have HK:=af hK;have dd:=af bC;clear aT a_ ap hK cd bZ ag aw bC;have g3:g<w3.heap.size:=cu;have g4:w1.heap.size+1<w3.heap.size:=by omega
         have aU:=(HI.out.own.kept HK.out);have bE:=af (fun x=>(aU.below (a:=⟨w1.heap.size+1,V+k,none⟩) (by show w1.heap.size+1<_;omega) x).kept ((gO.refl _).alloc (.cells #[.int .i64 kd,.int .i64 kk,.slice ua un uc] 106)))
         have aV:some w1.heap.size≠(Value.slice oa on oc).ownBlock:=by
          intro e;obtain ⟨cells,ho,_⟩:=HI.out.own;have:=(ho.lt _ e.symm).1;omega
         have aW:=af aV;have cP:w3.heap.size<=wr.heap.size:=Nat.le_trans HI.out.size HK.out.size;clear aU aV
         go_wp2_with (first
          | (with_reducible refine wpList_load_mid rfl 106 _ rfl (wo.heap.size+1) 0 rfl _ _ (bD.out _) Tryz.underlying106 rfl (by kernel_rfl) ?_)
          | (at_builtin;refine EF rfl _ _ rfl w3.heap.size _ ks rfl (bE.out _) _ kd kk ua un uc rfl (sy _ _ _ _ _ _ _) cN.out (by simp [World.setCell];omega) ?_;intro nv w6 ay aH de;obtain ⟨xa,xc,rfl,_⟩:=ay.at;have aX:=af ay;clear ay;have st5:=aH.cell (a:=⟨w1.heap.size,1,none⟩) (v:=.slice oa on oc) (((gO.refl _).alloc _).cell (pE c5 (p:=w1.heap.size+1) (by show w1.heap.size≠_;omega) _ _)) aW.out;have sf5:=(World.frozen?_of_block (a:=⟨w1.heap.size,1,none⟩) (aH.block w1.heap.size (by simp [World.setCell];omega) aW.out)).trans (((gO.refl _).alloc _).free (p:=⟨w1.heap.size,1,none⟩) (by simp [World.setCell];omega) (tz f5 (p:=w1.heap.size+1) (by show w1.heap.size≠_;omega) _ _))))
         have RI:=Fq (kd:=kd) (t:=(V:Int)+(on:Int)) HI.out HK.out g4 cw g3 aX.out ⟨aH.os,aH.tape,aH.output,aH.size,aH.block⟩;rw [show (ks++[kd]).length=ks.length+1 by simp] at RI;go_roundw
         case rel=>exact ⟨k+1,_,_,by omega,by go_num,by rw [bq.out,br.out,if_pos rfl,show (f.nodes.getD k iZ).kind=kd by rw [cD.out];simp [List.getD_eq_getElem?_getD,aZ]];exact RI⟩
         case measure=>simp [intOf];omega
     ·have e:k=n:=by omega
      subst e;obtain ⟨oa,oc,bB,_⟩:=aj.own.at;subst bB;have ap:=aj.box;have c0:=ap.cell (i:=0) (by simp);have c1:=ap.cell (i:=1) (by simp);have c2:=ap.cell (i:=2) (by simp);have f2:=ap.free 2;have bp:T<tl.length:=by rw [aj.tlen];omega
      obtain ⟨zt,cT⟩:∃ z:Int,wr.cell? ⟨w1.heap.size+1,T,none⟩=some (.int .i64 z):=⟨tl[T],by have:=aj.row.cell (i:=T) (by simpa using bp);rw [List.getElem_map] at this;exact this⟩;have aY:(T:Int)<(V:Int)+(k:Int):=by omega
      have bl:(T:Int)<((V+k:Nat):Int):=by omega
      have ah:gS wr (w.heap.size+1) 41 [.int .i64 0,.slice none 0 0,.int .i64 0]:=by
       have:=(gS.made (w.alloc (.cells #[.int .i64 V,.slice a k c,.int .i64 T] 41)) #[.int .i64 0,.slice none 0 0,.int .i64 0] 41).kept ai;simpa using this
      have r0:=ah.cell (i:=0) (by simp);have r1:=ah.cell (i:=1) (by simp);have r2:=ah.cell (i:=2) (by simp);have s0:=ah.free 0;have s1:=ah.free 1;have s2:=ah.free 2;simp only [List.getElem_cons_succ,List.getElem_cons_zero] at r0 r1 r2;simp only [List.getElem_cons_succ,List.getElem_cons_zero] at c0 c1 c2;have HI:=af aj;have ne1:w1.heap.size≠w.heap.size+1:=by omega
      have ne2:w.heap.size+1≠w1.heap.size:=by omega
      clear aj ap ah;go_wp2;refine bodyPost_ret (v:=.tuple #[.agg #[.int .i64 V,.slice oa (iB V R f.nodes k).length oc,.int .i64 zt],.nilIface]) ?_ rfl ⟨_,_,rfl,?_,?_⟩
      ·simp [results,Tryz.results81,go_sem,r0,r1,r2]
      ·rw [<-bN.out];have h3:w1.heap.size+1<w3.heap.size:=by omega
       exact ((((HI.out.own.below (a:=⟨w1.heap.size,2,none⟩) (by show w1.heap.size<_;omega) _).below (a:=⟨w.heap.size+1,0,none⟩) (by show w.heap.size+1<_;omega) _).below (a:=⟨w.heap.size+1,1,none⟩) (by show w.heap.size+1<_;omega) _).below (a:=⟨w.heap.size+1,2,none⟩) (by show w.heap.size+1<_;omega) _).at
      ·have aA:gO w wr:=(((gO.refl w).alloc _).alloc _).trans ai;exact (((aA.store (by omega) _ _).store (by omega) _ _).store (by omega) _ _).store (by omega) _ _
def kK (ks:List Int):Bool:=ks.all fun k=>!(k == 1||k == 5)
def kt (V T:Nat) (f:Fm):Bool:=kK (iB V (io V T f.nodes) f.nodes f.nodes.length)
theorem pj (v:Value) (f:Fm) (V T:Nat) (w:World) (hv:ii w v f.nodes) (am:Ok f V T) (ar:jP f=0) :
  Calls Tryz.prog 124 #[.agg #[.int .i64 V,v,.int .i64 T]] w fun e w'=>e=.returned (.tuple #[.bool (kt V T f),.nilIface])/\gO w w':=by
 have H:=af (fun W (hk:gO w W)=>GR v f V T W (hv.kept hk) am ar);have aj:=sq V (io V T f.nodes) f.nodes f.nodes.length;have ap:=am.n128;unfold kt;obtain ⟨ks,aw⟩:∃ ks,ks=iB V (io V T f.nodes) f.nodes f.nodes.length:=⟨_,rfl⟩;rw [<-aw] at H aj⊢;obtain ⟨r,hr⟩:∃ r,r=kK ks:=⟨_,rfl⟩;rw [<-hr];have HR:=af hr;obtain ⟨n,hn⟩:∃ n,n=ks.length:=⟨_,rfl⟩;have aF:n<=128:=by omega
 have HN:=af hn;clear hv am ar aw hr aj ap hn;go_enter Tryz.func124,Tryz.ntmps124;go_wp2_with (go_at_call 81;refine (H.out _ ((gO.refl _).alloc _)).mono ?_;rintro e w1 ⟨tv,top,rfl,hkd,ay⟩;obtain ⟨ta,tc,rfl,_,_,az⟩:=hkd;rw [<-HN.out];have aC:=af az;clear az;have aD:=ay.size;simp only [World.size_alloc] at aD);have aA:gO w (w1.alloc (.cells #[.int .i64 V,.slice ta n tc,.int .i64 top] 41)):=(((gO.refl _).alloc _).trans ay).alloc _;go_loopw [7,19] (fun _ i wr=>∃ k:Nat,k<=n/\i=.int .i64 k/\Hid (kK (ks.take k)=true)/\gO w1 wr/\gO w wr) (fun _ i _=>n - (intOf i).toNat)
 case atStart=>exact ⟨0,Nat.zero_le _,rfl,af rfl,(gO.refl _).alloc _,aA⟩
 case round =>
  clear aA;obtain ⟨k,hk,rfl,HM,hK,al⟩:=hrel;by_cases aG:k<n
  ·have aB:k<ks.length:=by have:=HN.out;omega
   obtain ⟨b,o,rfl,u1,sa,sn,sc,c0,c1,c2⟩:=aC.out k aB
   have ag:kK (ks.take (k+1))=(kK (ks.take k)&&!(ks[k] == 1||ks[k] == 5)):=by
    unfold kK;rw [List.take_succ_eq_append_getElem aB,List.all_append];simp
   have ai:(ks[k] == 1||ks[k] == 5)=true->r=false:=by
    intro h;rw [HR.out,kK,List.all_eq_false];exact ⟨ks[k],List.getElem_mem _,by rw [h];simp⟩
   obtain ⟨kd,hkd⟩:∃ kd,kd=ks[k]:=⟨_,rfl⟩;rw [<-hkd] at c0 ag ai
   have ah:wr.rangeAt b (o+k*3) [.int .i64 kd,.int .i64 u1,.slice sa sn sc]:=by
    intro j v hj
    match j,hj with
    | 0,hj=>simp at hj;subst hj;exact hK.cell c0
    | 1,hj=>simp at hj;subst hj;exact hK.cell c1
    | 2,hj=>simp at hj;subst hj;exact hK.cell c2
   have aq:=af ah;have HS:=af ag;have HB:=af ai;clear c0 c1 c2 ah ag ai hkd;by_cases h1:kd=1
   ·subst h1;go_wp2_with (with_reducible refine wpList_load_mid rfl 106 _ rfl b (o+k*3) rfl _ _ aq.out Tryz.underlying106 rfl (by kernel_rfl) ?_);go_ret2;exact ⟨by rw [HB.out rfl];rfl,(al.alloc _)⟩
   ·by_cases h5:kd=5
    ·subst h5;go_wp2_with (with_reducible refine wpList_load_mid rfl 106 _ rfl b (o+k*3) rfl _ _ aq.out Tryz.underlying106 rfl (by kernel_rfl) ?_);go_ret2;exact ⟨by rw [HB.out rfl];rfl,(al.alloc _)⟩
    ·have b1:(kd == 1)=false:=by simpa using h1
     have b5:(kd == 5)=false:=by simpa using h5
     go_wp2_with (with_reducible refine wpList_load_mid rfl 106 _ rfl b (o+k*3) rfl _ _ aq.out Tryz.underlying106 rfl (by kernel_rfl) ?_);go_roundw
     case rel=>exact ⟨k+1,by omega,by go_num,af (by rw [HS.out,HM.out,b1,b5];rfl),hK.alloc _,al.alloc _⟩
     case measure=>simp [intOf];omega
  ·have e:r=true:=by
    have:=HM.out;rw [List.take_of_length_le (by have:=HN.out;omega)] at this;rw [HR.out];exact this
   have HE:=af e;clear e;go_wp2;go_ret2;exact ⟨by rw [HE.out];rfl,al⟩
def mm (w:World) (v:Value) (xss:List (List Nat)):Prop:=oA gZ w v xss
theorem mm.kept {w w':World} {v:Value} {xss:List (List Nat)} (h:mm w v xss) (hk:gO w w'):mm w' v xss :=
 oA.kept (fun _ _ _ _ h k=>h.kept k) h hk
def OwnFams (w:World) (B:Nat) (v:Value) (xss:List (List Nat)):Prop :=
 ∃ us:List Value,us.length=xss.length/\w.ownsRow B 22 1 v xss.length us/\xss.length<=140737488355328/\∀ i (h:i<us.length) (h':i<xss.length),hC w 0 us[i] xss[i]
theorem OwnFams.at {w:World} {B:Nat} {v:Value} {xss:List (List Nat)} (h:OwnFams w B v xss):mm w v xss:=by
 obtain ⟨us,h1,⟨h2,h3⟩,h4,h5⟩:=h;rcases h3 with ⟨rfl,h6⟩ | ⟨g,cap,cur,rfl,h6,h7,h8,h9,ah,ag⟩
 ·have:xss=[]:=List.eq_nil_of_length_eq_zero h6
  subst this;exact ⟨none,0,rfl,⟨by simp,fun _=>rfl⟩,by simp,fun i h=>by simp at h⟩
 ·refine ⟨_,cap,rfl,⟨h8,fun h=>by cases h⟩,h4,fun i hi=>⟨g,0,us[i]'(by omega),rfl,?_,(h5 i (by omega) hi).sets⟩⟩;have e1:(cur.toList.take (xss.length*1))[i]?=us[i]?:=by rw [ag]
  rw [List.getElem?_take_of_lt (by omega)] at e1;simp only [World.cell?,h7,Nat.zero_add];simpa [h1,hi] using e1
theorem OwnFams.kept {w w':World} {B:Nat} {v:Value} {xss:List (List Nat)} (h:OwnFams w B v xss) (hk:gO w w'):OwnFams w' B v xss:=by
 obtain ⟨us,h1,h2,h3,h4⟩:=h;exact ⟨us,h1,lT h2 hk,h3,fun i h h'=>(h4 i h h').kept hk⟩
theorem OwnFams.nil (w:World) (B:Nat):OwnFams w B (.slice none 0 0) []:=⟨[],rfl,World.ownsRow_nil _ _ _ _,by simp,fun i h=>by simp at h⟩
theorem nQ {w w':World} {B:Nat} {e e':TypeId} {size size' n n' B':Nat} {v v':Value} {xs xs':List Value} (h:w.ownsRow B e size v n xs) (h':w.ownsRow B' e' size' v' n' xs') (ag:e≠e')
  (hg:∀ k,k<w.heap.size->some k≠v'.ownBlock->w'.heap[k]?=w.heap[k]?):w'.ownsRow B e size v n xs:=by
 obtain ⟨h1,h2⟩:=h;refine ⟨h1,h2.imp id ?_⟩;rintro ⟨g,cap,cur,rfl,h5,h6,h7⟩;refine ⟨g,cap,cur,rfl,h5,(hg g (mN h6) ?_).trans h6,h7⟩;intro e;obtain ⟨_,⟨rfl,_⟩ | ⟨g2,cap2,cur2,rfl,_,h8,_⟩⟩:=h'
 ·cases e
 ·cases e;rw [h8] at h6;cases h6;exact ag rfl
theorem hC.tag {w w':World} {B:Nat} {e':TypeId} {size' n' B':Nat} {v v':Value} {ns:List Nat} {xs':List Value} (h:hC w B v ns) (h':w.ownsRow B' e' size' v' n' xs') (ag:3≠e')
  (hg:∀ k,k<w.heap.size->some k≠v'.ownBlock->w'.heap[k]?=w.heap[k]?):hC w' B v ns:=⟨⟨nQ h.1.1 h' ag hg,h.1.2⟩,h.2⟩
theorem qr {ops:Array Oper} {rest:List Oper} {o:Oper} {a:Act} {Q:Exit->Act->World->Prop} {w:World} (aj:o.guard=none) (s x:Operand)
  (ho:o.op=.call { callee:=.builtin .append,args:=#[s,x],argTypes:=#[104,104] }) (B:Nat) (v:Value) (xss:List (List Nat)) (hs:a.eval s=v) (ag:OwnFams w B v xss)
  (ad:Addr) (u:Value) (ys:List Nat) (hx:a.eval x=.slice (some ad) 1 1) (hc:w.cell? ad=some u) (hu:hC w 0 u ys) (hl:xss.length<1000000) (hB:B<=w.heap.size)
  (h:∀ v' w',OwnFams w' B v' (xss++[ys])->w.grownBy w' v.ownBlock->Below B w w'->wpList Tryz.prog ops Q rest (a.put o.dst v') w'):wpList Tryz.prog ops Q (o :: rest) a w:=by
 obtain ⟨us,h1,h2,h3,h4⟩:=ag;obtain ⟨ua,un,uc,rfl⟩:=hu.1.ints.shape;refine sT 104 22 _ 24 rp Tryz.underlying104 rfl aj s x ho B v us hs (by rw [h1];exact h2) ad _ hx hc rfl (by omega) (by simp [maxLen];omega) hB ?_;intro v' w' h5 h6 h7;refine h v' w' ⟨us++[.slice ua un uc],by simp [h1],by simpa [h1] using h5,by simp;omega,?_⟩ h6 h7;intro i hi hi';by_cases ai:i<us.length
 ·rw [List.getElem_append_left ai,List.getElem_append_left (by omega)];exact (h4 i ai (by omega)).tag h2 (by decide) (fun k hk ah=>h6.block k hk ah)
 ·have e:i=us.length:=by simp at hi;omega
  subst e;rw [List.getElem_append_right (Nat.le_refl _),List.getElem_append_right (by omega)];simp only [Nat.sub_self,h1,List.getElem_cons_zero];exact hu.tag h2 (by decide) (fun k hk ah=>h6.block k hk ah)
def jo (op:List Nat->List Nat->Option (List Nat)) (first:List Nat) (args:List (List Nat)):Option (List Nat):=args.foldlM op first
theorem nJ (op:List Nat->List Nat->Option (List Nat)) (first:List Nat) (args:List (List Nat)) (k:Nat) (h:k<args.length):jo op first (args.take (k+1))=(jo op first (args.take k)).bind fun l=>op l args[k]:=by
 unfold jo;rw [List.take_succ_eq_append_getElem h,List.foldlM_append];simp [Option.bind_eq_bind]
theorem nI (op:List Nat->List Nat->Option (List Nat)) (first:List Nat) (args:List (List Nat)) (k:Nat) (h:jo op first (args.take k)=none):jo op first args=none:=by
 unfold jo at *;rw [<-List.take_append_drop k args,List.foldlM_append,h];rfl
def Joins (g:Nat) (op:List Nat->List Nat->Option (List Nat)):Prop :=
 ∀ (a b:List Nat) (va vb:Value) (w:World),gZ w va a->gZ w vb b->Calls Tryz.prog g #[va,vb] w fun e w'=>kP w' w.heap.size e (op a b)/\gO w w'
theorem OwnFams.mono {w:World} {B B':Nat} {v:Value} {xss:List (List Nat)} (h:OwnFams w B v xss) (hb:B'<=B):OwnFams w B' v xss:=by
 obtain ⟨us,h1,h2,h3,h4⟩:=h;exact ⟨us,h1,nz h2 hb,h3,h4⟩
theorem hC.one (w:World) (B:Nat) (s:Nat) (hs:Mk s) (hB:B<=w.heap.size):hC (w.alloc (.cells #[.int .i64 s] 3)) B (.slice (some ⟨w.heap.size,0,none⟩) 1 1) [s] :=
 ⟨⟨⟨by simp,.inr ⟨w.heap.size,1,#[.int .i64 s],rfl,hB,heap_alloc_new w _,Nat.le_refl _,by unfold maxLen;omega,by simp,by simp⟩⟩,by simp⟩,by simpa using hs⟩
theorem hC.nils (w:World) (B:Nat):hC w B (.slice none 0 0) []:=⟨OwnInts.nil _ _,by simp⟩
theorem OwnFams.store {w:World} {B g n cap:Nat} {xss:List (List Nat)} (h:OwnFams w B (.slice (some ⟨g,0,none⟩) n cap) xss) (hn:n=xss.length) (i:Nat) {u:Value} {ys:List Nat} (hu:hC w 0 u ys) :
  OwnFams (w.setCell ⟨g,i,none⟩ u) B (.slice (some ⟨g,0,none⟩) n cap) (xss.set i ys):=by
 obtain ⟨us,h1,h2,h3,h4⟩:=h;subst hn;have h5:=h2.stored i u;refine ⟨us.set i u,by simp [h1],by simpa using h5.1,by simpa using h3,fun j hj hj'=>?_⟩;have hg:∀ k,k<w.heap.size->some k≠(Value.slice (some ⟨g,0,none⟩) xss.length cap).ownBlock->(w.setCell ⟨g,i,none⟩ u).heap[k]?=w.heap[k]?:=fun k hk ag=>h5.2.block k hk ag
 by_cases e:i=j
 ·subst e;rw [List.getElem_set_self,List.getElem_set_self];exact hu.tag h2 (by decide) hg
 ·rw [List.getElem_set_ne e,List.getElem_set_ne e];exact (h4 j (by simpa using hj) (by simpa using hj')).tag h2 (by decide) hg
theorem tI {ops:Array Oper} {rest:List Oper} {o:Oper} {a:Act} {Q:Exit->Act->World->Prop} {w:World} (hg:o.guard=none) (l c:Operand)
  (ag:o.op=Op.makeSlice 104 l c) (n:Nat) (hl:a.eval l=.int .i64 n) (hc:a.eval c=.int .i64 n) (hb:n<=1000000)
  (hK:∀ w',OwnFams w' w.heap.size (.slice (some ⟨w.heap.size,0,none⟩) n n) (List.replicate n [])->gO w w'->w.heap.size<w'.heap.size->wpList Tryz.prog ops Q rest (a.put o.dst (.slice (some ⟨w.heap.size,0,none⟩) n n)) w'):wpList Tryz.prog ops Q (o :: rest) a w:=by
 obtain ⟨i0,ah,ai,aj,al⟩:=info_parts rp;refine wpList_make_full w hg l c 104 ag w.heap.size 22 i0 _ 1 Tryz.underlying104 ah ai aj .i64 .i64 _ _ n hl hc rfl rfl (by rw [al];omega) (by unfold maxLen;omega) (Nat.le_refl _) ?_;intro w' h1 h2;rw [tH _ rfl n] at h1;refine hK w' ⟨List.replicate n (.slice none 0 0),by simp,by simpa using h1,by simp;omega,fun i h h'=>by simp [hC.nils]⟩ ⟨h2.os,h2.tape,h2.output,h2.size,fun k hk=>h2.block k hk (by simp)⟩ ?_;exact (h1.lt _ rfl).2
theorem OwnFams.cell {w:World} {B g n cap:Nat} {xss:List (List Nat)} (h:OwnFams w B (.slice (some ⟨g,0,none⟩) n cap) xss) (i:Nat) (hi:i<xss.length):∃ u,w.cell? ⟨g,i,none⟩=some u/\hC w 0 u xss[i]:=by
 obtain ⟨us,h1,h2,h3,h4⟩:=h;refine ⟨us[i]'(by omega),?_,h4 i (by omega) hi⟩;obtain ⟨h5,h6⟩:=h2;rcases h6 with ⟨h6,_⟩ | ⟨g',cap',cur,h6,_,h7,h8,h9,ah,ag⟩
 ·cases h6
 ·cases h6;have e1:(cur.toList.take (xss.length*1))[i]?=us[i]?:=by rw [ag]
  rw [List.getElem?_take_of_lt (by omega)] at e1;simp only [World.cell?,h7];simpa [h1,hi] using e1
theorem OwnFams.free {w:World} {B g n cap:Nat} {xss:List (List Nat)} (h:OwnFams w B (.slice (some ⟨g,0,none⟩) n cap) xss) (i:Nat):w.frozen? ⟨g,i,none⟩=false:=by
 obtain ⟨us,h1,⟨h2,h3⟩,_⟩:=h;rcases h3 with ⟨h3,_⟩ | ⟨g',cap',cur,h3,_,h4,_⟩
 ·cases h3
 ·cases h3;simp [World.frozen?,h4]
theorem OwnFams.shape {w:World} {B:Nat} {v:Value} {xss:List (List Nat)} (h:OwnFams w B v xss) (h0:xss≠[]):∃ g cap,v=.slice (some ⟨g,0,none⟩) xss.length cap/\B<=g/\g<w.heap.size/\xss.length<=cap:=by
 obtain ⟨us,h1,⟨h2,h3⟩,_⟩:=h;rcases h3 with ⟨_,h3⟩ | ⟨g,cap,cur,rfl,h4,h5,h6,_⟩
 ·exact absurd (List.eq_nil_of_length_eq_zero h3) h0
 ·exact ⟨g,cap,rfl,h4,mN h5,h6⟩
def Jx (arg:List Nat) (t:List (List Nat)) (m:Nat):Option (List Nat):=(h_ arg (t.getD m [])).bind fun x=>iN x (t.getD (m+1) [])
def G_ (arg:List Nat) (t:List (List Nat)):Nat->Option (List (List Nat))
 | 0=>some [[0]]
 | m+1=>(G_ arg t m).bind fun acc=>(Jx arg t m).map fun x=>acc++[x]
def zT (k:Nat) (args:List (List Nat)):Nat->List (List Nat)->Option (List (List Nat))
 | 0,t=>some t
 | q+1,t=>(G_ (args.getD q []) t k).bind (zT k args q)
def Kq (args:List (List Nat)) (k:Nat):Option (List Nat):=(zT k args args.length ([0] :: List.replicate k [])).map fun t=>t.getD k []
def Kh (kind:Int) (k:Int) (fams:List (List Nat)):Option (List Nat) :=
 if kind=0 then (if k=1 then some [0] else some []) else if kind=3 then jo iN [] fams else if kind=2 then jo h_ [0] fams else Kq fams k.toNat
def jz (V:Nat) (out:List (List Nat)) (a:Int):List Nat:=if a<V then [2^a.toNat] else out.getD (a - V).toNat []
def Ht (V:Nat) (mark:List Bool) (nodes:List Nd) (out:List (List Nat)) (i:Nat):Option (List (List Nat)) :=
 if mark.getD (V+i) false then (Kh (nodes.getD i iZ).kind (nodes.getD i iZ).k ((nodes.getD i iZ).args.map (jz V out))).map fun l=>out.set i l else some out
def Fd (V:Nat) (mark:List Bool) (nodes:List Nd):Nat->Option (List (List Nat))
 | 0=>some (List.replicate nodes.length [])
 | k+1=>(Fd V mark nodes k).bind fun out=>Ht V mark nodes out k
def Kd (V T:Nat) (nodes:List Nd):Option (List (List Nat)):=Fd V (io V T nodes) nodes nodes.length
theorem yL (V:Nat) (mark:List Bool) (nodes:List Nd) (i:Nat) (h:mark.getD (V+i) false=true):∀ k,i<k->(nodes.getD i iZ).kind∈iB V mark nodes k:=by
 intro k hk;induction k with
 | zero=>omega
 | succ k ih =>
  unfold iB;by_cases e:i=k
  ·subst e;rw [h];simp
  ·split
   ·exact List.mem_append.2 (.inl (ih (by omega)))
   ·exact ih (by omega)
theorem mg {V T:Nat} {f:Fm} (ag:Ok f V T) (hs:kt V T f=true) (i:Nat) (hi:i<f.nodes.length) (h:(io V T f.nodes).getD (V+i) false=true) :
  f.nodes[i].kind=0\/f.nodes[i].kind=2\/f.nodes[i].kind=3\/f.nodes[i].kind=4:=by
 have h1:=yL V _ f.nodes i h f.nodes.length hi;unfold kt kK at hs;have h2:=List.all_eq_true.1 hs _ h1;rw [show f.nodes.getD i iZ=f.nodes[i] by simp [List.getD_eq_getElem?_getD,hi]] at h2;have h3:=ag.kind i hi;simp at h2;omega
def Lc (w':World) (B:Nat) (e:Ending) (r:Option (List (List Nat))):Prop :=
 match r with
 | some l=>∃ v,e=.returned (.tuple #[v,.nilIface])/\OwnFams w' B v l
 | none=>e=.returned (.tuple #[.slice none 0 0,iV 4])
theorem GG (Y:Nat) (h:Y<24):wrap64 ((2:Int)^Y)=((2^Y:Nat):Int)/\Mk (2^Y):=by
 have h1:(2:Nat)^Y<2^24:=Nat.pow_lt_pow_right (by omega) h;refine ⟨?_,h1⟩;rw [show (2:Int)^Y=((2^Y:Nat):Int) by simp];generalize (2:Nat)^Y=z at h1⊢;unfold wrap64;omega
theorem hC.shl (w:World) (Y:Nat) (h:Y<24):hC (w.alloc (.cells #[.int .i64 (wrap64 ((2:Int)^Y))] 3)) 0 (.slice (some ⟨w.heap.size,0,none⟩) 1 1) [2^Y]:=by
 rw [(GG Y h).1];exact hC.one w 0 (2^Y) (GG Y h).2 (Nat.zero_le _)
theorem iI {a b:Nat}:iE a b=true ↔ ∀ i,a.testBit i=true->b.testBit i=true:=by
 unfold iE iH;rw [beq_iff_eq];constructor
 ·intro h i hi;have h1:(a ^^^ (a &&& b)).testBit i=false:=by rw [h];simp
  simp [hi] at h1;exact h1
 ·intro h;apply Nat.eq_of_testBit_eq;intro i;simp only [Nat.testBit_xor,Nat.testBit_and,Nat.zero_testBit];cases ha:a.testBit i with
  | false=>simp
  | true=>simp [h i ha]
theorem jU (a:Nat):iE a a=true:=iI.2 fun _ h=>h
theorem mc {a b c:Nat} (h1:iE a b=true) (h2:iE b c=true):iE a c=true:=iI.2 fun i h=>iI.1 h2 i (iI.1 h1 i h)
theorem Eg {a b:Nat} (h:iE a b=true):a % 2<=b % 2/\iE (a / 2) (b / 2)=true:=by
 have h':=iI.1 h;refine ⟨?_,iI.2 fun i hi=>?_⟩
 ·have h0:=h' 0;simp only [Nat.testBit_zero,decide_eq_true_eq] at h0;omega
 ·have h0:=h' (i+1);simp only [Nat.testBit_succ] at h0;exact h0 hi
theorem JH (n:Nat):∀ a b,b<=n->iE a b=true->pc a<=pc b/\(pc a=pc b->a=b):=by
 induction n using Nat.strongRecOn with
 | ind n ih =>
  intro a b hb h;by_cases h0:b=0
  ·subst h0
   have:a=0:=by
    apply Nat.eq_of_testBit_eq;intro i;cases ha:a.testBit i with
    | false=>simp
    | true=>have:=iI.1 h i ha;simp at this
   subst this;exact ⟨Nat.le_refl _,fun _=>rfl⟩
  ·obtain ⟨h1,h2⟩:=Eg h;have:=ih (b / 2) (by omega) (a / 2) (b / 2) (Nat.le_refl _) h2;rw [j_ a,j_ b];refine ⟨by omega,fun he=>?_⟩;have e2:pc (a / 2)=pc (b / 2):=by omega
   have:=this.2 e2;omega
theorem mS {a b:Nat} (h:iE a b=true):pc a<=pc b/\(pc a=pc b->a=b):=JH b a b (Nat.le_refl _) h
theorem ml {a b:Nat} (h1:iE a b=true) (h2:iE b a=true):a=b:=by
 have:=mS h1;have:=mS h2;exact (mS h1).2 (by omega)
theorem AR {a b:Nat} (h:iE a b=true) (h2:lI b a):False:=by
 have h1:=mS h;unfold lI at h2;rcases h2 with h2 | h2
 ·omega
 ·have:=h1.2 (by omega);omega
theorem Dq (l:List Nat):∀ out x,(out++l).Pairwise lI->(x∈l.foldl iu out ↔ x∈out\/x∈l/\∀ y,y∈out\/y∈l->iE y x=true->y=x):=by
 induction l with
 | nil=>intro out x _;simp
 | cons s l ih =>
  intro out x hp;have hp':=List.pairwise_append.1 hp;have hs:=List.pairwise_cons.1 hp'.2.1;show x∈l.foldl iu (iu out s) ↔ _;by_cases hk:out.any (fun t=>iE t s)=true
  ·rw [show iu out s=out from if_pos hk];obtain ⟨t,ht,ah⟩:=List.any_eq_true.1 hk;rw [ih out x (List.pairwise_append.2 ⟨hp'.1,hs.2,fun a ha b hb=>hp'.2.2 a ha b (List.mem_cons_of_mem _ hb)⟩)];constructor
   ·rintro (h | ⟨h1,h2⟩)
    ·exact .inl h
    ·refine .inr ⟨List.mem_cons_of_mem _ h1,?_⟩;rintro y (hy | hy) ag
     ·exact h2 y (.inl hy) ag
     ·rcases List.mem_cons.1 hy with e | e
      ·subst e;have:=h2 t (.inl ht) (mc ah ag);subst this;exact absurd (hp'.2.2 t ht t (List.mem_cons_of_mem _ h1)) (kO t)
      ·exact h2 y (.inr e) ag
   ·rintro (h | ⟨h1,h2⟩)
    ·exact .inl h
    ·rcases List.mem_cons.1 h1 with e | e
     ·subst e;have:=h2 t (.inl ht) ah;subst this;exact absurd (hp'.2.2 t ht t (List.mem_cons_self ..)) (kO t)
     ·exact .inr ⟨e,fun y hy=>h2 y (hy.imp id (List.mem_cons_of_mem _))⟩
  ·rw [show iu out s=out++[s] from if_neg hk];rw [ih (out++[s]) x (by simpa using hp)];have hk':∀ t∈out,¬ iE t s=true:=fun t ht h=>hk (List.any_eq_true.2 ⟨t,ht,h⟩)
   have ms:∀ z,z∈out++[s] ↔ z∈out\/z=s:=fun z=>by simp
   simp only [ms,List.mem_cons];constructor
   ·rintro ((h | h) | ⟨h1,h2⟩)
    ·exact .inl h
    ·subst h;refine .inr ⟨.inl rfl,?_⟩;rintro y (hy | hy | hy) ag
     ·exact absurd ag (hk' y hy)
     ·exact hy
     ·exact (AR ag (hs.1 y hy)).elim
    ·refine .inr ⟨.inr h1,?_⟩;rintro y (hy | hy | hy) ag
     ·exact h2 y (.inl (.inl hy)) ag
     ·exact h2 y (.inl (.inr hy)) ag
     ·exact h2 y (.inr hy) ag
   ·rintro (h | ⟨h1 | h1,h2⟩)
    ·exact .inl (.inl h)
    ·exact .inl (.inr h1)
    ·refine .inr ⟨h1,?_⟩;rintro y ((hy | hy) | hy) ag
     ·exact h2 y (.inl hy) ag
     ·exact h2 y (.inr (.inl hy)) ag
     ·exact h2 y (.inr (.inr hy)) ag
theorem AX (l:List Nat):∀ out,(out++l).Pairwise lI->(l.foldl iu out).Pairwise lI:=by
 induction l with
 | nil=>intro out h;simpa using h
 | cons s l ih =>
  intro out h;show (l.foldl iu (iu out s)).Pairwise lI;by_cases hk:out.any (fun t=>iE t s)=true
  ·rw [show iu out s=out from if_pos hk];refine ih out (List.Pairwise.sublist ?_ h);exact List.Sublist.append_left (List.sublist_cons_self s l) out
  ·rw [show iu out s=out++[s] from if_neg hk];exact ih _ (by simpa using h)
theorem jw (l:List Nat) (x:Nat):x∈iy l ↔ x∈l/\∀ y∈l,iE y x=true->y=x:=by
 unfold iy nP;rw [Dq (iA l) [] x (by simpa using jZ l)];simp [jG]
theorem kZ (l:List Nat):(iy l).Pairwise lI:=AX _ [] (by simpa using jZ l)
def up (l:List Nat) (s:Nat):Prop:=∃ t∈l,iE t s=true
theorem tw (l:List Nat):∀ (n:Nat) (t:Nat),pc t<=n->t∈l->∃ y∈iy l,iE y t=true:=by
 intro n;induction n with
 | zero =>
  intro t hn ht;refine ⟨t,(jw l t).2 ⟨ht,fun y hy h=>?_⟩,jU t⟩;have:=mS h;exact this.2 (by omega)
 | succ n ih =>
  intro t hn ht;by_cases h:∃ y∈l,iE y t=true/\y≠t
  ·obtain ⟨y,hy,h1,h2⟩:=h;have:=mS h1
   have h3:pc y<=n:=by
    by_cases e:pc y=pc t
    ·exact absurd (this.2 e) h2
    ·omega
   obtain ⟨z,hz,h4⟩:=ih y h3 hy;exact ⟨z,hz,mc h4 h1⟩
  ·exact ⟨t,(jw l t).2 ⟨ht,fun y hy h1=>Classical.byContradiction fun h2=>h ⟨y,hy,h1,h2⟩⟩,jU t⟩
theorem og (l:List Nat) (s:Nat):up (iy l) s ↔ up l s:=by
 constructor
 ·rintro ⟨t,ht,h⟩;exact ⟨t,nx ht,h⟩
 ·rintro ⟨t,ht,h⟩;obtain ⟨y,hy,h2⟩:=tw l _ t (Nat.le_refl _) ht;exact ⟨y,hy,mc h2 h⟩
theorem oN {l r:List Nat} (h:∀ s,up l s ↔ up r s) {x:Nat} (hx:x∈iy l):x∈iy r:=by
 obtain ⟨h1,h2⟩:=(jw l x).1 hx;obtain ⟨y,hy,ag⟩:=(h x).1 ⟨x,h1,jU x⟩;obtain ⟨z,hz,ah⟩:=(h y).2 ⟨y,hy,jU y⟩;have e1:=h2 z hz (mc ah ag);subst e1;have e2:y=z:=ml ag ah;subst e2;refine (jw r y).2 ⟨hy,fun w hw ai=>?_⟩;obtain ⟨v,hv,aj⟩:=(h w).2 ⟨w,hw,jU w⟩;have e3:=h2 v hv (mc aj ai);subst e3;exact ml ai aj
theorem tK {l r:List Nat} (h:∀ s,up l s ↔ up r s):iy l=iy r :=
 kC lI kO mY _ _ (kZ l) (kZ r) fun _=>⟨fun hx=>oN h hx,fun hx=>oN (fun s=>(h s).symm) hx⟩
def Hc (l:List Nat):Prop:=iy l=l
theorem tk (l:List Nat):Hc (iy l):=tK fun s=>og l s
theorem BS (s:Nat):¬ up [] s:=by rintro ⟨t,h,_⟩;cases h
theorem Hb (s:Nat):iE 0 s=true:=iI.2 fun i h=>by simp at h
theorem xU (s:Nat):up [0] s:=⟨0,by simp,Hb s⟩
theorem Hj:Hc []:=rfl
theorem Hk (x:Nat):Hc [x]:=by
 have h1:∀ y,y∈iy [x] ↔ y∈[x]:=fun y=>by rw [jw];simp;intro h _;exact h.symm
 exact kC lI kO mY _ _ (kZ [x]) (by simp) h1
theorem Eq (a b:List Nat) (s:Nat):up (a++b) s ↔ up a s\/up b s:=by
 unfold up;constructor
 ·rintro ⟨t,h,h2⟩;rcases List.mem_append.1 h with h | h
  ·exact .inl ⟨t,h,h2⟩
  ·exact .inr ⟨t,h,h2⟩
 ·rintro (⟨t,h,h2⟩ | ⟨t,h,h2⟩)
  ·exact ⟨t,List.mem_append.2 (.inl h),h2⟩
  ·exact ⟨t,List.mem_append.2 (.inr h),h2⟩
theorem FQ (x y s:Nat):iE (x ||| y) s=true ↔ iE x s=true/\iE y s=true:=by
 rw [iI,iI,iI];constructor
 ·intro h;exact ⟨fun i hi=>h i (by simp [hi]),fun i hi=>h i (by simp [hi])⟩
 ·rintro ⟨h1,h2⟩ i hi;simp at hi;rcases hi with hi | hi
  ·exact h1 i hi
  ·exact h2 i hi
theorem xT (a b:List Nat) (s:Nat):up (oC a b) s ↔ up a s/\up b s:=by
 unfold up;constructor
 ·rintro ⟨t,h,h2⟩;obtain ⟨x,hx,y,hy,rfl⟩:=(oM a b t).1 h;have:=(FQ x y s).1 h2;exact ⟨⟨x,hx,this.1⟩,⟨y,hy,this.2⟩⟩
 ·rintro ⟨⟨x,hx,h1⟩,⟨y,hy,h2⟩⟩;exact ⟨x ||| y,(oM a b _).2 ⟨x,hx,y,hy,rfl⟩,(FQ x y s).2 ⟨h1,h2⟩⟩
theorem qg {a b l:List Nat} (h:iN a b=some l):l=iy (a++b)/\l.length<=1024:=by
 unfold iN at h;split at h
 ·split at h
  ·cases h;exact ⟨rfl,by assumption⟩
  ·cases h
 ·cases h
theorem mZ {a b l:List Nat} (h:h_ a b=some l):l=iy (oC (iy a) (iy b))/\l.length<=1024:=by
 unfold h_ at h;split at h
 ·split at h
  ·cases h;exact ⟨rfl,by assumption⟩
  ·cases h
 ·cases h
theorem zS {a b l:List Nat} (h:iN a b=some l) (s:Nat):up l s ↔ up a s\/up b s:=by
 rw [(qg h).1,og,Eq]
theorem sL {a b l:List Nat} (h:h_ a b=some l) (s:Nat):up l s ↔ up a s/\up b s:=by
 rw [(mZ h).1,og,xT,og,og]
theorem CO {a b l:List Nat} (h:iN a b=some l):Hc l:=by rw [(qg h).1];exact tk _
theorem wN {a b l:List Nat} (h:h_ a b=some l):Hc l:=by rw [(mZ h).1];exact tk _
theorem pY (op:List Nat->List Nat->Option (List Nat)) (f a:List Nat) (l:List (List Nat)):jo op f (a :: l)=(op f a).bind fun g=>jo op g l:=rfl
theorem Er (args:List (List Nat)) (s:Nat):∀ f l,jo iN f args=some l->(up l s ↔ up f s\/∃ a∈args,up a s):=by
 induction args with
 | nil=>intro f l h;cases h;simp
 | cons a args ih =>
  intro f l h;rw [pY] at h;cases h1:iN f a with
  | none=>rw [h1] at h;cases h
  | some g =>
   rw [h1] at h;rw [ih g l h,zS h1];simp [or_assoc]
theorem BR (args:List (List Nat)) (s:Nat):∀ f l,jo h_ f args=some l->(up l s ↔ up f s/\∀ a∈args,up a s):=by
 induction args with
 | nil=>intro f l h;cases h;simp
 | cons a args ih =>
  intro f l h;rw [pY] at h;cases h1:h_ f a with
  | none=>rw [h1] at h;cases h
  | some g =>
   rw [h1] at h;rw [ih g l h,sL h1];simp [and_assoc]
def Good (l:List Nat):Prop:=Hc l/\l.length<=1024
theorem oF:Good []:=⟨Hj,by simp⟩
theorem oG (x:Nat):Good [x]:=⟨Hk x,by simp⟩
theorem tA {a b l:List Nat} (h:iN a b=some l):Good l:=⟨CO h,(qg h).2⟩
theorem uY {a b l:List Nat} (h:h_ a b=some l):Good l:=⟨wN h,(mZ h).2⟩
theorem vG (op:List Nat->List Nat->Option (List Nat)) (ag:∀ a b l,op a b=some l->Good l) (args:List (List Nat)):∀ f l,Good f->jo op f args=some l->Good l:=by
 induction args with
 | nil=>intro f l hf h;cases h;exact hf
 | cons a args ih =>
  intro f l hf h;rw [pY] at h;cases h1:op f a with
  | none=>rw [h1] at h;cases h
  | some g=>rw [h1] at h;exact ih g l (ag _ _ _ h1) h
def kq (vals:List Bool):List Int->Nat
 | []=>0
 | a :: l=>(if vals.getD a.toNat false then 1 else 0)+kq vals l
def su (kind k:Int) (t m:Nat):Bool :=
 if kind=0 then k == 1 else if kind=1 then t == 0 else if kind=2 then t == m else if kind=3 then decide (0<t) else if kind=4 then decide (k<=(t:Int)) else t % 2 == 1
def jf (V s:Nat) (nodes:List Nd):Nat->List Bool
 | 0=>(List.range V).map fun i=>s.testBit i
 | k+1=>jf V s nodes k++[su (nodes.getD k iZ).kind (nodes.getD k iZ).k (kq (jf V s nodes k) (nodes.getD k iZ).args) (nodes.getD k iZ).args.length]
def mU (V s:Nat) (nodes:List Nd):List Bool:=jf V s nodes nodes.length
theorem nM (V s:Nat) (nodes:List Nd) (k:Nat):(jf V s nodes k).length=V+k:=by
 induction k with
 | zero=>simp [jf]
 | succ k ih=>unfold jf;simp [ih];omega
theorem oi (V s:Nat) (nodes:List Nd) (j:Nat):∀ k i,i<V+j->j<=k->(jf V s nodes k).getD i false=(jf V s nodes j).getD i false:=by
 intro k;induction k with
 | zero =>
      intro i hi hj;have:j=0:=by omega
      subst this;rfl
 | succ k ih =>
  intro i hi hj;by_cases e:j=k+1
  ·subst e;rfl
  ·rw [<-ih i hi (by omega)];show (jf V s nodes k++_).getD i false=_;rw [List.getD_eq_getElem?_getD,List.getElem?_append_left (by rw [nM];omega),<-List.getD_eq_getElem?_getD]
theorem oh (V s:Nat) (nodes:List Nd) (k i:Nat) (hi:i<V):(jf V s nodes k).getD i false=s.testBit i:=by
 rw [oi V s nodes 0 k i (by omega) (by omega)];simp [jf,List.getD_eq_getElem?_getD,hi]
theorem GS (vals:List Bool) (a:List Int):kq vals a<=a.length:=by
 induction a with
 | nil=>simp [kq]
 | cons x a ih=>simp only [kq,List.length_cons];split <;> omega
theorem zR (v1 v2:List Bool) (a:List Int) (h:∀ x∈a,v1.getD x.toNat false=v2.getD x.toNat false):kq v1 a=kq v2 a:=by
 induction a with
 | nil=>rfl
 | cons x a ih=>simp only [kq];rw [h x (List.mem_cons_self ..),ih fun y hy=>h y (List.mem_cons_of_mem _ hy)]
noncomputable def uT (s:Nat):List (List Nat)->Nat
 | []=>0
 | f :: l=>(open Classical in if up f s then 1 else 0)+uT s l
theorem GT (s:Nat) (a:List (List Nat)):uT s a<=a.length:=by
 induction a with
 | nil=>simp [uT]
 | cons x a ih=>simp only [uT,List.length_cons];split <;> omega
theorem IB (s:Nat) (a:List (List Nat)):0<uT s a ↔ ∃ f∈a,up f s:=by
 induction a with
 | nil=>simp [uT]
 | cons x a ih =>
  simp only [uT,List.mem_cons];by_cases h:up x s
  ·rw [if_pos h];exact ⟨fun _=>⟨x,.inl rfl,h⟩,fun _=>by omega⟩
  ·rw [if_neg h,Nat.zero_add,ih];exact ⟨fun ⟨f,hf,h1⟩=>⟨f,.inr hf,h1⟩,fun ⟨f,hf,h1⟩=>hf.elim (fun e=>absurd (e ▸ h1) h) fun hf=>⟨f,hf,h1⟩⟩
theorem IA (s:Nat) (a:List (List Nat)):uT s a=a.length ↔ ∀ f∈a,up f s:=by
 induction a with
 | nil=>simp [uT]
 | cons x a ih =>
  simp only [uT,List.length_cons,List.mem_cons];have:=GT s a;by_cases h:up x s
  ·rw [if_pos h];constructor
   ·intro e f hf;rcases hf with rfl | hf
    ·exact h
    ·exact ih.1 (by omega) f hf
   ·intro e;have:=ih.2 fun f hf=>e f (.inr hf)
    omega
  ·rw [if_neg h];constructor
   ·intro e;omega
   ·intro e;exact absurd (e x (.inl rfl)) h
theorem Cv (Y s:Nat):iE (2^Y) s=s.testBit Y:=by
 rw [Bool.eq_iff_iff,iI];constructor
 ·intro h;exact h Y (by simp)
 ·intro h i hi;simp [Nat.testBit_two_pow] at hi;subst hi;exact h
theorem qM (args:List Int):∀ (m:List Bool) (i:Nat),m.getD i false=true->(iY m args).getD i false=true:=by
 induction args with
 | nil=>intro m i h;exact h
 | cons a l ih =>
  intro m i h;refine ih (m.set a.toNat true) i ?_;rw [List.getD_eq_getElem?_getD] at h⊢;by_cases e:a.toNat=i
  ·subst e;by_cases hl:a.toNat<m.length
   ·rw [List.getElem?_set_self hl];rfl
   ·rw [List.getElem?_eq_none (by omega)] at h;cases h
  ·rw [List.getElem?_set_ne e];exact h
theorem yI (args:List Int):∀ (m:List Bool) (a:Int),a∈args->a.toNat<m.length->(iY m args).getD a.toNat false=true:=by
 induction args with
 | nil=>intro m a h;cases h
 | cons x l ih =>
  intro m a ha hl;rcases List.mem_cons.1 ha with e | e
  ·subst e;refine qM l (m.set a.toNat true) a.toNat ?_;rw [List.getD_eq_getElem?_getD,List.getElem?_set_self hl];rfl
  ·exact ih (m.set x.toNat true) a e (by simpa using hl)
theorem uZ (args:List Int):∀ (m:List Bool) (i:Nat),(∀ a∈args,a.toNat≠i)->(iY m args).getD i false=m.getD i false:=by
 induction args with
 | nil=>intro m i _;rfl
 | cons a l ih =>
  intro m i h;rw [show iY m (a :: l)=iY (m.set a.toNat true) l from rfl,ih (m.set a.toNat true) i fun x hx=>h x (List.mem_cons_of_mem _ hx)];rw [List.getD_eq_getElem?_getD,List.getElem?_set_ne (h a (List.mem_cons_self ..)),<-List.getD_eq_getElem?_getD]
theorem lX (V:Nat) (nodes:List Nd):∀ k m i,m.getD i false=true->(jg V nodes k m).getD i false=true:=by
 intro k;induction k with
 | zero=>intro m i h;exact h
 | succ k ih =>
  intro m i h;unfold jg;refine ih _ i ?_;split
  ·exact qM _ _ _ h
  ·exact h
theorem wK (V:Nat) (nodes:List Nd) (ag:∀ i (h:i<nodes.length),∀ a∈nodes[i].args,0<=a/\a<(V:Int)+i):∀ k m i,k<=nodes.length->k<=i->(jg V nodes k m).getD (V+i) false=m.getD (V+i) false:=by
 intro k;induction k with
 | zero=>intro m i _ _;rfl
 | succ k ih =>
  intro m i hk hi;unfold jg;rw [ih _ i (by omega) (by omega)];split
  ·refine uZ _ _ _ fun a ha e=>?_
   rw [show nodes.getD k iZ=nodes[k] by simp [List.getD_eq_getElem?_getD,show k<nodes.length by omega]] at ha;have:=ag k (by omega) a ha;omega
  ·rfl
theorem tf (V:Nat) (nodes:List Nd) (ah:∀ i (h:i<nodes.length),∀ a∈nodes[i].args,0<=a/\a<(V:Int)+i):∀ k m,k<=nodes.length->m.length=V+nodes.length ->
  ∀ i (_:i<k) (h:i<nodes.length),(jg V nodes k m).getD (V+i) false=true->∀ a∈nodes[i].args,(jg V nodes k m).getD a.toNat false=true:=by
 intro k;induction k with
 | zero=>intro m _ _ i hi;omega
 | succ k ih =>
  intro m hk hm i hi h ag a ha;have ai:nodes.getD k iZ=nodes[k]:=by simp [List.getD_eq_getElem?_getD,show k<nodes.length by omega]
  unfold jg at ag⊢;by_cases e:i=k
  ·subst e;have h2:=wK V nodes ah i (if m.getD (V+i) false then iY m (nodes.getD i iZ).args else m) i (by omega) (Nat.le_refl _);rw [h2] at ag
   have aj:m.getD (V+i) false=true:=by
    by_cases hb:m.getD (V+i) false=true
    ·exact hb
    ·rw [if_neg hb] at ag;exact ag
   refine lX V nodes i _ _ ?_;rw [if_pos aj,ai];have:=ah i h a ha;exact yI _ m a ha (by omega)
  ·exact ih (if m.getD (V+k) false then iY m (nodes.getD k iZ).args else m) (by omega) (by split;rw [kX,hm];exact hm) i (by omega) h ag a ha
theorem kG (V T:Nat) (f:Fm) (ag:Ok f V T):∀ i (hi:i<f.nodes.length),(io V T f.nodes).getD (V+i) false=true->∀ a∈f.nodes[i].args,(io V T f.nodes).getD a.toNat false=true:=by
 intro i hi h a ha;exact tf V f.nodes ag.args f.nodes.length _ (Nat.le_refl _) (by simp) i hi hi h a ha
def KX (V e:Nat) (a:Int):Int:=if a=e then V else if a<V then a else a+1
def Lp (V e:Nat) (x:Nd):Nd:=⟨x.kind,x.k,x.args.map (KX V e)⟩
def LB (V e:Nat) (k:Int) (f:Fm) (T:Nat):Fm:=⟨V,⟨0,k,[]⟩ :: f.nodes.map (Lp V e),KX V e T⟩
def KE (s e:Nat) (b:Bool):Nat:=if b then s ||| 2^e else iH s (2^e)
theorem C_ (l:List Bool) (x:Bool) (i:Nat) (h:i=l.length):(l++[x]).getD i false=x:=by subst h;simp [List.getD_eq_getElem?_getD]
def JZ (l:List Nat) (fl wk:Nat):List Nat:=iy ((l.filter fun s=>s &&& wk == 0).map fun s=>iH s fl)
theorem lg (a b i:Nat):(iH a b).testBit i=(a.testBit i&&!b.testBit i):=by
 unfold iH;rw [Nat.testBit_xor,Nat.testBit_and];cases a.testBit i <;> cases b.testBit i <;> rfl
def cond (V:Nat) (a:Int):Nat:=if a<V then 2^a.toNat else 2^(24+(a - V).toNat)
def iv (V r:Nat) (a:Int):Nat:=r ||| cond V a
def hJ (V:Nat):List Int->Nat->Nat->List Nat
 | [],k,r=>if k=0 then [r] else []
 | a :: l,k,r=>if k=0 then [r] else hJ V l (k - 1) (iv V r a)++hJ V l k r
def jB (V:Nat) (x:Nd) (i r:Nat):List Nat :=
 if x.kind=0 then (if x.k=1 then [iH r (2^(24+i))] else [])
 else if x.kind=2 then [x.args.foldl (iv V) (iH r (2^(24+i)))]
 else if x.kind=3 then x.args.map (iv V (iH r (2^(24+i))))
 else hJ V x.args x.k.toNat (iH r (2^(24+i)))
def wY (V:Nat) (x:Nd) (i r:Nat):List Nat:=if r.testBit (24+i) then jB V x i r else [r]
def iP (V:Nat) (x:Nd) (i:Nat) (R:List Nat):List Nat:=R.flatMap (wY V x i)
def kU (V:Nat) (nodes:List Nd):Nat->List Nat->Option (List Nat × List Nat)
 | 0,R=>some (R,[])
 | i+1,R =>
  if R.any (fun r=>r.testBit (24+i))=true then
   if (iP V (nodes.getD i iZ) i R).length<=4096 then
    if (iy (iP V (nodes.getD i iZ) i R)).length<=1024 then (kU V nodes i (iy (iP V (nodes.getD i iZ) i R))).map fun p=>(p.1,(iy (iP V (nodes.getD i iZ) i R)).length :: p.2)
    else none
   else none
  else kU V nodes i R
def nc (V T:Nat) (nodes:List Nd):Option (List Nat × List Nat):=kU V nodes nodes.length [cond V T]
def uJ (P:Nat->Prop) (r:Nat):Prop:=∀ i,r.testBit i=true->P i
def upP (R:List Nat) (P:Nat->Prop):Prop:=∃ r∈R,uJ P r
theorem xN (P:Nat->Prop) (a b:Nat):uJ P (a ||| b) ↔ uJ P a/\uJ P b:=by
 unfold uJ;constructor
 ·intro h;exact ⟨fun i hi=>h i (by simp [hi]),fun i hi=>h i (by simp [hi])⟩
 ·rintro ⟨h1,h2⟩ i hi;simp at hi;exact hi.elim (h1 i) (h2 i)
theorem Cz (P:Nat->Prop) (m:Nat):uJ P (2^m) ↔ P m:=by
 unfold uJ;constructor
 ·intro h;exact h m (by simp)
 ·intro h i hi;simp [Nat.testBit_two_pow] at hi;subst hi;exact h
theorem Iu {P:Nat->Prop} {a b:Nat} (h:iE a b=true) (hb:uJ P b):uJ P a:=fun i hi=>hb i (iI.1 h i hi)
theorem D' (P:Nat->Prop) (r m:Nat) (hr:r.testBit m=true):uJ P r ↔ uJ P (iH r (2^m))/\P m:=by
 unfold uJ;constructor
 ·intro h;refine ⟨fun i hi=>?_,h m hr⟩;rw [lg] at hi;simp at hi;exact h i hi.1
 ·rintro ⟨h1,h2⟩ i hi;by_cases e:i=m
  ·subst e;exact h2
  ·refine h1 i ?_;rw [lg,hi,Nat.testBit_two_pow];simp [Ne.symm e]
theorem BO (P:Nat->Prop) (a b:List Nat):upP (a++b) P ↔ upP a P\/upP b P:=by
 unfold upP;constructor
 ·rintro ⟨t,h,h2⟩;exact (List.mem_append.1 h).elim (fun h=>.inl ⟨t,h,h2⟩) fun h=>.inr ⟨t,h,h2⟩
 ·rintro (⟨t,h,h2⟩ | ⟨t,h,h2⟩)
  ·exact ⟨t,List.mem_append.2 (.inl h),h2⟩
  ·exact ⟨t,List.mem_append.2 (.inr h),h2⟩
theorem GV (P:Nat->Prop) (l:List Nat):upP (iy l) P ↔ upP l P:=by
 constructor
 ·rintro ⟨t,ht,h⟩;exact ⟨t,nx ht,h⟩
 ·rintro ⟨t,ht,h⟩;obtain ⟨y,hy,h2⟩:=tw l _ t (Nat.le_refl _) ht;exact ⟨y,hy,Iu h2 h⟩
theorem pl (P:Nat->Prop) (r:Nat):upP [r] P ↔ uJ P r:=by
 unfold upP;simp
def EA (V:Nat) (P:Nat->Prop) (vals:List Bool) (args:List Int):Prop:=∀ a∈args,(uJ P (cond V a) ↔ vals.getD a.toNat false=true)
theorem BP (V:Nat) (P:Nat->Prop) (vals:List Bool):∀ (args:List Int) (k r:Nat),EA V P vals args->(upP (hJ V args k r) P ↔ uJ P r/\k<=kq vals args):=by
 intro args;induction args with
 | nil =>
  intro k r _;unfold hJ kq;by_cases h:k=0
  ·rw [if_pos h,pl];simp [h]
  ·rw [if_neg h];constructor
   ·rintro ⟨t,ht,_⟩;cases ht
   ·rintro ⟨_,h2⟩;omega
 | cons a l ih =>
  intro k r hs;have hs':EA V P vals l:=fun x hx=>hs x (List.mem_cons_of_mem _ hx)
  have ha:=hs a (List.mem_cons_self ..);unfold hJ kq;by_cases h:k=0
  ·rw [if_pos h,pl];simp [h]
  ·rw [if_neg h,BO,ih (k - 1) (iv V r a) hs',ih k r hs'];unfold iv;rw [xN,ha];by_cases hv:vals.getD a.toNat false=true
   ·rw [if_pos hv];constructor
    ·rintro (⟨⟨h1,_⟩,h2⟩ | ⟨h1,h2⟩)
     ·exact ⟨h1,by omega⟩
     ·exact ⟨h1,by omega⟩
    ·rintro ⟨h1,h2⟩;exact .inl ⟨⟨h1,hv⟩,by omega⟩
   ·rw [if_neg hv];constructor
    ·rintro (⟨⟨_,h1⟩,_⟩ | ⟨h1,h2⟩)
     ·exact absurd h1 hv
     ·exact ⟨h1,by omega⟩
    ·rintro ⟨h1,h2⟩;exact .inr ⟨h1,by omega⟩
theorem En (vals:List Bool) (args:List Int):kq vals args=args.length ↔ ∀ a∈args,vals.getD a.toNat false=true:=by
 induction args with
 | nil=>simp [kq]
 | cons a l ih =>
  have:=GS vals l;simp only [kq,List.length_cons,List.mem_cons,forall_eq_or_imp];by_cases h:vals.getD a.toNat false=true
  ·rw [if_pos h,<-ih];constructor
   ·intro e;exact ⟨h,by omega⟩
   ·intro e;omega
  ·rw [if_neg h];constructor
   ·intro e;omega
   ·intro e;exact absurd e.1 h
theorem Eo (vals:List Bool) (args:List Int):0<kq vals args ↔ ∃ a∈args,vals.getD a.toNat false=true:=by
 induction args with
 | nil=>simp [kq]
 | cons a l ih =>
  simp only [kq,List.mem_cons,exists_eq_or_imp,<-ih];by_cases h:vals.getD a.toNat false=true
  ·rw [if_pos h];exact ⟨fun _=>.inl h,fun _=>by omega⟩
  ·rw [if_neg h];exact ⟨fun e=>.inr (by omega),fun e=>e.elim (fun e=>absurd e h) fun e=>by omega⟩
theorem GE (V:Nat) (P:Nat->Prop) (args:List Int):∀ r,uJ P (args.foldl (iv V) r) ↔ uJ P r/\∀ a∈args,uJ P (cond V a):=by
 induction args with
 | nil=>intro r;simp
 | cons a l ih =>
  intro r;show uJ P (l.foldl (iv V) (iv V r a)) ↔ _;rw [ih,iv,xN];simp [and_assoc]
theorem BQ (V:Nat) (P:Nat->Prop) (vals:List Bool) (x:Nd) (i r:Nat) (hs:EA V P vals x.args) (hk:x.kind=0\/x.kind=2\/x.kind=3\/x.kind=4) (h4:x.kind=4->0<=x.k) :
  upP (jB V x i r) P ↔ uJ P (iH r (2^(24+i)))/\su x.kind x.k (kq vals x.args) x.args.length=true:=by
 unfold jB su;rcases hk with hk | hk | hk | hk
 ·simp only [hk,if_true];by_cases e:x.k=1
  ·rw [if_pos e,pl];simp [e]
  ·rw [if_neg e];simp only [beq_iff_eq,e,and_false,iff_false];rintro ⟨t,ht,_⟩;cases ht
 ·simp only [hk,show ¬ (2:Int)=0 by decide,show ¬ (2:Int)=1 by decide,if_true,if_false];rw [pl,GE,beq_iff_eq,En];exact and_congr Iff.rfl ⟨fun h a ha=>(hs a ha).1 (h a ha),fun h a ha=>(hs a ha).2 (h a ha)⟩
 ·simp only [hk,show ¬ (3:Int)=0 by decide,show ¬ (3:Int)=1 by decide,show ¬ (3:Int)=2 by decide,if_true,if_false];rw [decide_eq_true_eq,Eo];constructor
  ·rintro ⟨t,ht,h⟩;obtain ⟨a,ha,rfl⟩:=List.mem_map.1 ht;have:=(xN P _ _).1 h;exact ⟨this.1,a,ha,(hs a ha).1 this.2⟩
  ·rintro ⟨h,a,ha,h2⟩;exact ⟨_,List.mem_map.2 ⟨a,ha,rfl⟩,(xN P _ _).2 ⟨h,(hs a ha).2 h2⟩⟩
 ·simp only [hk,show ¬ (4:Int)=0 by decide,show ¬ (4:Int)=1 by decide,show ¬ (4:Int)=2 by decide,show ¬ (4:Int)=3 by decide,if_true,if_false];rw [BP V P vals x.args _ _ hs,decide_eq_true_eq];have:=h4 hk;exact and_congr Iff.rfl (by omega)
theorem GU (V:Nat) (P:Nat->Prop) (vals:List Bool) (x:Nd) (i:Nat) (R:List Nat) (h:∀ r∈R,r.testBit (24+i)=true->EA V P vals x.args/\(x.kind=0\/x.kind=2\/x.kind=3\/x.kind=4)/\(x.kind=4->0<=x.k)/\(P (24+i) ↔ su x.kind x.k (kq vals x.args) x.args.length=true)) :
  upP (iP V x i R) P ↔ upP R P:=by
 unfold iP
 have one:∀ r∈R,(upP (wY V x i r) P ↔ uJ P r):=by
  intro r hr;unfold wY;by_cases hb:r.testBit (24+i)=true
  ·rw [if_pos hb];obtain ⟨h1,h2,h3,h4⟩:=h r hr hb;rw [BQ V P vals x i r h1 h2 h3,<-h4,<-D' P r _ hb]
  ·rw [if_neg hb,pl]
 unfold upP;constructor
 ·rintro ⟨t,ht,hs⟩;obtain ⟨r,hr,ag⟩:=List.mem_flatMap.1 ht;exact ⟨r,hr,(one r hr).1 ⟨t,ag,hs⟩⟩
 ·rintro ⟨r,hr,hs⟩;obtain ⟨t,ht,h2⟩:=(one r hr).2 hs;exact ⟨t,List.mem_flatMap.2 ⟨r,hr,ht⟩,h2⟩
def ie (b r:Nat):Prop:=∀ j,r.testBit j=true->j<b
theorem vZ {b m:Nat} (h:m<b):ie b (2^m):=fun j hj=>by
 simp [Nat.testBit_two_pow] at hj;omega
theorem mB {b x y:Nat} (h1:ie b x) (h2:ie b y):ie b (x ||| y):=fun j hj=>by
 simp at hj;exact hj.elim (h1 j) (h2 j)
theorem zy {b r:Nat} (h:ie (b+1) r):ie b (iH r (2^b)):=fun j hj=>by
 rw [lg,Nat.testBit_two_pow] at hj;simp at hj;have:=h j hj.1;omega
theorem lL {b c r:Nat} (h:ie b r) (hc:b<=c):ie c r:=fun j hj=>Nat.lt_of_lt_of_le (h j hj) hc
theorem nA {b r:Nat} (h:ie b r):r<2^b:=by
 apply Nat.lt_of_not_le;intro hr;obtain ⟨i,hi,hb⟩:=Nat.exists_ge_and_testBit_of_ge_two_pow hr;have:=h i hb;omega
theorem xI {b r:Nat} (h:r<2^b):ie b r:=fun j hj=>by
 apply Nat.lt_of_not_le;intro hb;rw [Nat.testBit_lt_two_pow (Nat.lt_of_lt_of_le h (Nat.pow_le_pow_right (by omega) hb))] at hj;cases hj
theorem j' {V m:Nat} {a:Int} (h:0<=a/\a<(V:Int)+m) (hV:V<=24):ie (24+m) (cond V a):=by
 unfold cond;split
 ·exact vZ (by omega)
 ·exact vZ (by omega)
theorem Bk {V b:Nat} (args:List Int) (h:∀ a∈args,ie b (cond V a)):∀ r,ie b r->ie b (args.foldl (iv V) r):=by
 induction args with
 | nil=>intro r hr;exact hr
 | cons a l ih=>intro r hr;exact ih (fun x hx=>h x (List.mem_cons_of_mem _ hx)) _ (mB hr (h a (List.mem_cons_self ..)))
theorem xG {V b:Nat} (args:List Int):(∀ a∈args,ie b (cond V a))->∀ k r,ie b r->∀ t∈hJ V args k r,ie b t:=by
 induction args with
 | nil =>
  intro _ k r hr t ht;unfold hJ at ht;split at ht
  ·simp at ht;subst ht;exact hr
  ·cases ht
 | cons a l ih =>
  intro h k r hr t ht;unfold hJ at ht;split at ht
  ·simp at ht;subst ht;exact hr
  ·have h':∀ x∈l,ie b (cond V x):=fun x hx=>h x (List.mem_cons_of_mem _ hx)
   rcases List.mem_append.1 ht with ht | ht
   ·exact ih h' _ _ (mB hr (h a (List.mem_cons_self ..))) t ht
   ·exact ih h' _ _ hr t ht
theorem xH {V i r:Nat} {x:Nd} (hV:V<=24) (ha:∀ a∈x.args,0<=a/\a<(V:Int)+i) (hr:ie (24+i+1) r):∀ t∈jB V x i r,ie (24+i) t:=by
 have h':∀ a∈x.args,ie (24+i) (cond V a):=fun a h=>j' (ha a h) hV
 have hd:=zy hr;intro t ht;unfold jB at ht;split at ht
 ·split at ht
  ·simp at ht;subst ht;exact hd
  ·cases ht
 ·split at ht
  ·simp at ht;subst ht;exact Bk _ h' _ hd
  ·split at ht
   ·obtain ⟨a,h1,rfl⟩:=List.mem_map.1 ht;exact mB hd (h' a h1)
   ·exact xG _ h' _ _ hd t ht
theorem rowLt_less {b r:Nat} (h:ie (b+1) r) (hb:r.testBit b=false):ie b r:=fun j hj=>by
 have:=h j hj;by_cases e:j=b
 ·subst e;rw [hb] at hj;cases hj
 ·omega
theorem uB {V i:Nat} {x:Nd} {R:List Nat} (hV:V<=24) (ha:∀ a∈x.args,0<=a/\a<(V:Int)+i) (hR:∀ r∈R,ie (24+i+1) r):∀ t∈iP V x i R,ie (24+i) t:=by
 intro t ht;obtain ⟨r,hr,ht⟩:=List.mem_flatMap.1 ht;unfold wY at ht;split at ht
 ·exact xH hV ha (hR r hr) t ht
 ·rename_i h;simp at ht;subst ht;exact rowLt_less (hR t hr) (by simpa using h)
theorem Bm {i:Nat} {R:List Nat} (hR:∀ r∈R,ie (24+(i+1)) r) (h:¬ R.any (fun r=>r.testBit (24+i))=true):∀ r∈R,ie (24+i) r:=fun r hr =>
 rowLt_less (b:=24+i) (hR r hr) (by
  cases hb:r.testBit (24+i) with
  | false=>rfl
  | true=>exact absurd (List.any_eq_true.2 ⟨r,hr,hb⟩) h)
def jH (V:Nat) (mark:List Bool) (r:Nat):Prop:=∀ j,r.testBit (24+j)=true->mark.getD (V+j) false=true
theorem rz {V:Nat} {mark:List Bool} {x y:Nat} (h1:jH V mark x) (h2:jH V mark y):jH V mark (x ||| y):=fun j hj=>by
 simp at hj;exact hj.elim (h1 j) (h2 j)
theorem AJ {V:Nat} {mark:List Bool} {x m:Nat} (h:jH V mark x):jH V mark (iH x m):=fun j hj=>by
 rw [lg] at hj;simp at hj;exact h j hj.1
theorem oL {V:Nat} {mark:List Bool} {a:Int} (h0:0<=a) (hV:V<=24) (h:mark.getD a.toNat false=true):jH V mark (cond V a):=by
 intro j hj;unfold cond at hj;split at hj
 ·simp [Nat.testBit_two_pow] at hj;omega
 ·simp [Nat.testBit_two_pow] at hj;rw [show V+j=a.toNat by omega];exact h
theorem yJ {V:Nat} {mark:List Bool} (args:List Int) (h:∀ a∈args,jH V mark (cond V a)):∀ r,jH V mark r->jH V mark (args.foldl (iv V) r):=by
 induction args with
 | nil=>intro r hr;exact hr
 | cons a l ih=>intro r hr;exact ih (fun x hx=>h x (List.mem_cons_of_mem _ hx)) _ (rz hr (h a (List.mem_cons_self ..)))
theorem u_ {V:Nat} {mark:List Bool} (args:List Int):(∀ a∈args,jH V mark (cond V a))->∀ k r,jH V mark r->∀ t∈hJ V args k r,jH V mark t:=by
 induction args with
 | nil =>
  intro _ k r hr t ht;unfold hJ at ht;split at ht
  ·simp at ht;subst ht;exact hr
  ·cases ht
 | cons a l ih =>
  intro h k r hr t ht;unfold hJ at ht;split at ht
  ·simp at ht;subst ht;exact hr
  ·have h':∀ x∈l,jH V mark (cond V x):=fun x hx=>h x (List.mem_cons_of_mem _ hx)
   rcases List.mem_append.1 ht with ht | ht
   ·exact ih h' _ _ (rz hr (h a (List.mem_cons_self ..))) t ht
   ·exact ih h' _ _ hr t ht
theorem sr {V i:Nat} {mark:List Bool} {x:Nd} {R:List Nat} (hV:V<=24) (hR:∀ r∈R,jH V mark r)
  (ha:mark.getD (V+i) false=true->∀ a∈x.args,0<=a/\mark.getD a.toNat false=true):∀ t∈iP V x i R,jH V mark t:=by
 intro t ht;obtain ⟨r,hr,ht⟩:=List.mem_flatMap.1 ht;unfold wY at ht;split at ht
 ·rename_i hb;have hm:=ha (hR r hr i hb);have h':∀ a∈x.args,jH V mark (cond V a):=fun a h=>oL (hm a h).1 hV (hm a h).2
  have hd:jH V mark (iH r (2^(24+i))):=AJ (hR r hr);unfold jB at ht;split at ht
  ·split at ht
   ·simp at ht;subst ht;exact hd
   ·cases ht
  ·split at ht
   ·simp at ht;subst ht;exact yJ _ h' _ hd
   ·split at ht
    ·obtain ⟨a,h1,rfl⟩:=List.mem_map.1 ht;exact rz hd (h' a h1)
    ·exact u_ _ h' _ _ hd t ht
 ·simp at ht;subst ht;exact hR t hr
def mX (V s:Nat) (nodes:List Nd) (i:Nat):Prop:=if i<24 then s.testBit i=true else (mU V s nodes).getD (V+(i - 24)) false=true
theorem wn {V T:Nat} {f:Fm} (ah:Ok f V T) (s:Nat) (args:List Int) (h:∀ a∈args,0<=a):EA V (mX V s f.nodes) (mU V s f.nodes) args:=by
 intro a ha;have h0:=h a ha;have hV:=ah.v24;unfold cond;by_cases ag:a<V
 ·rw [if_pos ag,Cz];unfold mX;rw [if_pos (by omega)];unfold mU;rw [oh V s f.nodes _ a.toNat (by omega)]
 ·rw [if_neg ag,Cz];unfold mX;rw [if_neg (by omega),show V+(24+(a - (V:Int)).toNat - 24)=a.toNat by omega]
theorem AB {V T:Nat} {f:Fm} (ag:Ok f V T) (s i:Nat) (hi:i<f.nodes.length):mX V s f.nodes (24+i) ↔ su f.nodes[i].kind f.nodes[i].k (kq (mU V s f.nodes) f.nodes[i].args) f.nodes[i].args.length=true:=by
 have ah:f.nodes.getD i iZ=f.nodes[i]:=by simp [List.getD_eq_getElem?_getD,hi]
 unfold mX;rw [if_neg (by omega),show V+(24+i - 24)=V+i by omega];unfold mU;rw [oi V s f.nodes (i+1) f.nodes.length (V+i) (by omega) (by omega)];show (jf V s f.nodes i++[_]).getD (V+i) false=true ↔ _
 rw [C_ _ _ _ (nM V s f.nodes i).symm,ah,
  zR (jf V s f.nodes i) (jf V s f.nodes f.nodes.length) f.nodes[i].args fun x hx=>by
   have:=ag.args i hi x hx;exact (oi V s f.nodes i f.nodes.length x.toNat (by omega) (by omega)).symm]
theorem GW {V T:Nat} {f:Fm} (ag:Ok f V T) (hs:kt V T f=true) (s:Nat):∀ i R p,i<=f.nodes.length->(∀ r∈R,jH V (io V T f.nodes) r)->kU V f.nodes i R=some p->(upP p.1 (mX V s f.nodes) ↔ upP R (mX V s f.nodes)):=by
 intro i;induction i with
 | zero=>intro R p _ _ h;cases h;exact Iff.rfl
 | succ i ih =>
  intro R p hi hm h;have ah:i<f.nodes.length:=by omega
  have ai:f.nodes.getD i iZ=f.nodes[i]:=by simp [List.getD_eq_getElem?_getD,ah]
  unfold kU at h;rw [ai] at h;split at h
  ·split at h
   ·split at h
    ·cases h1:kU V f.nodes i (iy (iP V f.nodes[i] i R)) with
     | none=>rw [h1] at h;cases h
     | some q =>
      rw [h1] at h;cases h
      have aj:∀ r∈iy (iP V f.nodes[i] i R),jH V (io V T f.nodes) r:=fun r hr =>
       sr ag.v24 hm (fun hk a ha=>⟨(ag.args i ah a ha).1,kG V T f ag i ah hk a ha⟩) r (nx hr)
      rw [ih _ q (by omega) aj h1,GV];refine GU V _ (mU V s f.nodes) f.nodes[i] i R fun r hr hb=>?_
      have al:=hm r hr i hb;have hkd:=mg ag hs i ah al;refine ⟨wn ag s _ fun a ha=>(ag.args i ah a ha).1,hkd,fun h4=>?_,AB ag s i ah⟩;have:=ag.arity i ah;unfold mF at this;rw [if_neg (by omega),if_pos h4] at this;split at this
      ·omega
      ·cases this
    ·cases h
   ·cases h
  ·exact ih R p (by omega) hm h
theorem Bl {V T:Nat} {f:Fm} (ah:Ok f V T):∀ i R p,i<=f.nodes.length->(∀ r∈R,ie (24+i) r)->kU V f.nodes i R=some p->∀ r∈p.1,ie 24 r:=by
 intro i;induction i with
 | zero=>intro R p _ hR h;cases h;exact hR
 | succ i ih =>
  intro R p hi hR h;have ai:i<f.nodes.length:=by omega
  have aj:f.nodes.getD i iZ=f.nodes[i]:=by simp [List.getD_eq_getElem?_getD,ai]
  unfold kU at h;rw [aj] at h;split at h
  ·split at h
   ·split at h
    ·cases h1:kU V f.nodes i (iy (iP V f.nodes[i] i R)) with
     | none=>rw [h1] at h;cases h
     | some q =>
      rw [h1] at h;cases h;exact ih _ q (by omega) (fun r hr=>uB ah.v24 (ah.args i ai) hR r (nx hr)) h1
    ·cases h
   ·cases h
  ·rename_i ag;exact ih R p (by omega) (Bm hR ag) h
theorem EO (V:Nat) (nodes:List Nd):∀ i R p,Good R->kU V nodes i R=some p->Good p.1:=by
 intro i;induction i with
 | zero=>intro R p hR h;cases h;exact hR
 | succ i ih =>
  intro R p hR h;unfold kU at h;split at h
  ·split at h
   ·split at h
    ·cases h1:kU V nodes i (iy (iP V (nodes.getD i iZ) i R)) with
     | none=>rw [h1] at h;cases h
     | some q =>
      rw [h1] at h;cases h;exact ih _ q ⟨tk _,by assumption⟩ h1
    ·cases h
   ·cases h
  ·exact ih R p hR h
theorem nC {V T:Nat} {f:Fm} (ag:Ok f V T) (hs:kt V T f=true) {p:List Nat × List Nat} (h:nc V T f.nodes=some p) :
  Good p.1/\(∀ r∈p.1,Mk r)/\∀ s,up p.1 s ↔ (mU V s f.nodes).getD T false=true:=by
 have hT:=ag.tlt;have hV:=ag.v24
 have ai:∀ r∈[cond V (T:Int)],ie (24+f.nodes.length) r:=by
  intro r hr;simp at hr;subst hr;exact j' (by omega) hV
 have aj:∀ r∈[cond V (T:Int)],jH V (io V T f.nodes) r:=by
  intro r hr;simp at hr;subst hr;refine oL (by omega) hV ?_;unfold io;refine lX V f.nodes _ _ _ ?_;rw [List.getD_eq_getElem?_getD,Int.toNat_natCast,List.getElem?_set_self (by simp;omega)];rfl
 have ah:=Bl ag _ _ p (Nat.le_refl _) ai h;refine ⟨EO V f.nodes _ _ p (oG _) h,fun r hr=>nA (ah r hr),fun s=>?_⟩;have al:=GW ag hs s _ _ p (Nat.le_refl _) aj h
 have e1:up p.1 s ↔ upP p.1 (mX V s f.nodes):=by
  unfold up upP
  have:∀ r∈p.1,(iE r s=true ↔ uJ (mX V s f.nodes) r):=by
   intro r hr;rw [iI];unfold uJ mX;constructor
   ·intro h i hi;rw [if_pos (ah r hr i hi)];exact h i hi
   ·intro h i hi;have:=h i hi;rw [if_pos (ah r hr i hi)] at this;exact this
  exact ⟨fun ⟨r,hr,h⟩=>⟨r,hr,(this r hr).1 h⟩,fun ⟨r,hr,h⟩=>⟨r,hr,(this r hr).2 h⟩⟩
 rw [e1,al,pl];have:=wn ag s [(T:Int)] (by simp) (T:Int) (by simp);rw [this];simp
theorem AE (l:List Nat):∀ (out done:List Nat),(done++l).Pairwise (fun a b=>pc a<=pc b)->out.Nodup->(∀ x∈out,x∈done)->(∀ x∈done,∃ t∈out,iE t x=true)->(∀ x∈out,∀ y∈done,iE y x=true->y=x) ->
  (l.foldl iu out).Nodup/\(∀ x∈l.foldl iu out,x∈done++l)/\(∀ x∈done++l,∃ t∈l.foldl iu out,iE t x=true)/\∀ x∈l.foldl iu out,∀ y∈done++l,iE y x=true->y=x:=by
 induction l with
 | nil=>intro out done _ h1 h2 h3 h4;simpa using ⟨h1,h2,h3,h4⟩
 | cons s l ih =>
  intro out done hp h1 h2 h3 h4;have ai:∀ x∈done,pc x<=pc s:=fun x hx=>(List.pairwise_append.1 hp).2.2 x hx s (List.mem_cons_self ..)
  have hp':((done++[s])++l).Pairwise (fun a b=>pc a<=pc b):=by simpa using hp
  have e:done++s :: l=(done++[s])++l:=by simp
  rw [e];show (l.foldl iu (iu out s)).Nodup/\_;by_cases hk:out.any (fun t=>iE t s)=true
  ·rw [show (s :: l).foldl iu out=l.foldl iu out by show l.foldl iu (iu out s)=_;rw [show iu out s=out from if_pos hk],show iu out s=out from if_pos hk];obtain ⟨t,ht,ah⟩:=List.any_eq_true.1 hk;refine ih out (done++[s]) hp' h1 (fun x hx=>List.mem_append.2 (.inl (h2 x hx))) (fun x hx=>?_) fun x hx y hy ag=>?_
   ·rcases List.mem_append.1 hx with hx | hx
    ·exact h3 x hx
    ·simp at hx;subst hx;exact ⟨t,ht,ah⟩
   ·rcases List.mem_append.1 hy with hy | hy
    ·exact h4 x hx y hy ag
    ·simp at hy;subst hy;have:=h4 x hx t (h2 t ht) (mc ah ag);subst this;exact ml ag ah
  ·rw [show (s :: l).foldl iu out=l.foldl iu (out++[s]) by show l.foldl iu (iu out s)=_;rw [show iu out s=out++[s] from if_neg hk],show iu out s=out++[s] from if_neg hk];have hk':∀ t∈out,¬ iE t s=true:=fun t ht h=>hk (List.any_eq_true.2 ⟨t,ht,h⟩)
   refine ih (out++[s]) (done++[s]) hp' ?_ (fun x hx=>?_) (fun x hx=>?_) fun x hx y hy ag=>?_
   ·rw [List.nodup_append];refine ⟨h1,by simp,fun a ha b hb=>?_⟩;simp at hb;subst hb;intro e2;subst e2;exact hk' _ ha (jU _)
   ·rcases List.mem_append.1 hx with hx | hx
    ·exact List.mem_append.2 (.inl (h2 x hx))
    ·exact List.mem_append.2 (.inr hx)
   ·rcases List.mem_append.1 hx with hx | hx
    ·obtain ⟨t,ht,h⟩:=h3 x hx;exact ⟨t,List.mem_append.2 (.inl ht),h⟩
    ·simp at hx;subst hx;exact ⟨x,by simp,jU x⟩
   ·rcases List.mem_append.1 hx with hx' | hx
    ·rcases List.mem_append.1 hy with hy | hy
     ·exact h4 x hx' y hy ag
     ·simp at hy;subst hy;exact (mS ag).2 (by have:=(mS ag).1;have:=ai x (h2 x hx');omega)
    ·simp at hx;subst hx;rcases List.mem_append.1 hy with hy | hy
     ·obtain ⟨t,ht,h⟩:=h3 y hy;exact absurd (mc h ag) (hk' t ht)
     ·simp at hy;exact hy
theorem vP {l:List Nat} (h:l.Pairwise lI):l.Nodup:=h.imp fun {a b} hab e=>by subst e;exact kO a hab
theorem sw {l r:List Nat} (h1:l.Nodup) (h2:r.Nodup) (h:∀ x,x∈l ↔ x∈r):l.Perm r:=(List.perm_ext_iff_of_nodup h1 h2).2 h
theorem AF {l F:List Nat} (hp:l.Perm F) (hs:l.Pairwise fun a b=>pc a<=pc b):(nP l).Perm (iy F):=by
 obtain ⟨h1,h2,h3,h4⟩:=AE l [] [] (by simpa using hs) (by simp) (by simp) (by simp) (by simp);refine sw h1 (vP (kZ F)) fun x=>?_
 rw [jw];simp only [List.nil_append] at h2 h3 h4;show x∈l.foldl iu [] ↔ _;constructor
 ·intro hx;exact ⟨hp.mem_iff.1 (h2 x hx),fun y hy ah=>h4 x hx y (hp.mem_iff.2 hy) ah⟩
 ·rintro ⟨hx,ag⟩;obtain ⟨t,ht,ai⟩:=h3 x (hp.mem_iff.2 hx);have:=ag t (hp.mem_iff.1 (h2 t ht)) ai;subst this;exact ht
theorem nr {V i:Nat} {x:Nd} {L R:List Nat} (h:L.Perm R):(iP V x i L).Perm (iP V x i R):=h.flatMap_right _
theorem rA {L R:List Nat} (h:L.Perm R):iy L=iy R:=AK _ _ fun _=>h.mem_iff
theorem wh (V:Nat) (nodes:List Nd) (i:Nat) (R:List Nat):∀ m,i<=m->(∀ j,i<=j->j<m->R.any (fun r=>r.testBit (24+j))=false)->kU V nodes m R=kU V nodes i R:=by
 intro m;induction m with
 | zero =>
      intro h _;have:i=0:=by omega
      subst this;rfl
 | succ m ih =>
  intro h hj;by_cases e:i=m+1
  ·subst e;rfl
  ·rw [<-ih (by omega) fun j h1 h2=>hj j h1 (by omega)]
   conv=>lhs;unfold kU
   rw [if_neg (by rw [hj m (by omega) (by omega)];simp)]
theorem tR (a b:Nat) (ha:a<18446744073709551616) (hb:b<18446744073709551616):bits .or .u64 (a:Int) (b:Int)=((a ||| b:Nat):Int):=by
 have h:(BitVec.ofInt 64 (a:Int) ||| BitVec.ofInt 64 (b:Int)).toNat=a ||| b:=by rw [BitVec.toNat_or,jd a ha,jd b hb]
 show IntKind.u64.wrap (((BitVec.ofInt 64 (a:Int) ||| BitVec.ofInt 64 (b:Int)).toNat:Nat):Int)=_;rw [h];have:=Nat.or_lt_two_pow (n:=64) (x:=a) (y:=b) (by omega) (by omega);exact wrap_u64 _ (by omega)
theorem pA (a b:Nat) (ha:a<18446744073709551616) (hb:b<18446744073709551616):bits .andNot .u64 (a:Int) (b:Int)=((iH a b:Nat):Int):=by
 have h:(BitVec.ofInt 64 (a:Int) &&& ~~~ BitVec.ofInt 64 (b:Int)).toNat=iH a b:=by
  have e:BitVec.ofInt 64 (a:Int) &&& ~~~ BitVec.ofInt 64 (b:Int)=BitVec.ofInt 64 (a:Int) ^^^ (BitVec.ofInt 64 (a:Int) &&& BitVec.ofInt 64 (b:Int)):=by
   ext i hi
   simp only [BitVec.getElem_and,BitVec.getElem_not,BitVec.getElem_xor];cases (BitVec.ofInt 64 (a:Int))[i] <;> cases (BitVec.ofInt 64 (b:Int))[i] <;> rfl
  rw [e,BitVec.toNat_xor,BitVec.toNat_and,jd a ha,jd b hb];rfl
 show IntKind.u64.wrap (((BitVec.ofInt 64 (a:Int) &&& ~~~ BitVec.ofInt 64 (b:Int)).toNat:Nat):Int)=_;rw [h];have h2:iH a b<2^64:=Nat.xor_lt_two_pow (by omega) (Nat.lt_of_le_of_lt Nat.and_le_left (by omega));exact wrap_u64 _ (by omega)
theorem sX (i:Nat) (h:i<64):IntKind.u64.wrap ((2:Int)^i)=((2^i:Nat):Int):=by
 have h1:2^i<18446744073709551616:=Nat.lt_of_lt_of_le (Nat.pow_lt_pow_right (by omega) h:2^i<2^64) (by decide);have:=wrap_u64 (2^i) h1;rw [<-this];simp
theorem qT {i:Nat} (h:i<64):2^i<18446744073709551616:=Nat.lt_of_lt_of_le (Nat.pow_lt_pow_right (by omega) h:2^i<2^64) (by decide)
theorem zd {i:Nat} (h:i<24):2^i<16777216:=Nat.lt_of_lt_of_le (Nat.pow_lt_pow_right (by omega) h:2^i<2^24) (by decide)
theorem Ce (l i:Nat) (hl:l<18446744073709551616):(bits .and .u64 ((l:Int) / 2^i) 1 == 1)=l.testBit i:=by
 have h1:(l:Int) / 2^i=((l / 2^i:Nat):Int):=by simp
 have h2:l / 2^i<18446744073709551616:=Nat.lt_of_le_of_lt (Nat.div_le_self _ _) hl;rw [h1,show (1:Int)=((1:Nat):Int) from rfl,lk _ _ h2 (by decide),Nat.and_one_is_mod,Nat.testBit_eq_decide_div_mod_eq,Bool.eq_iff_iff];simp;omega
theorem Jr (e l h i:Nat) (hl:l<18446744073709551616) (hi:i<64) (w:World) :
  Calls Tryz.prog 127 #[.agg #[.int .i64 e,.int .u64 l,.int .u64 h],.int .i64 i] w fun e' w'=>e'=.returned (.bool (l.testBit i))/\gO w w':=by
 have q0:(i:Int) / 64=0:=by omega
 have q1:(i:Int) % 64=i:=by omega
 have q2:Int.tdiv (i:Int) 64=0:=by rw [Int.tdiv_eq_ediv_of_nonneg (by omega)];exact q0
 have q3:Int.tmod (i:Int) 64=i:=by rw [Int.tmod_eq_emod_of_nonneg (by omega)];exact q1
 have HB:=af (Ce l i hl);go_enter Tryz.func127,Tryz.ntmps127;go_wp2;go_ret;exact ⟨by rw [<-HB.out];rfl,(gO.refl _).alloc _⟩
theorem Jq (e l h j:Nat) (hl:h<18446744073709551616) (hj:j<64) (w:World) :
  Calls Tryz.prog 127 #[.agg #[.int .i64 e,.int .u64 l,.int .u64 h],.int .i64 (64+j:Nat)] w fun e' w'=>e'=.returned (.bool (h.testBit j))/\gO w w':=by
 obtain ⟨i,hi⟩:∃ i,i=64+j:=⟨_,rfl⟩;rw [<-hi];have q0:(i:Int) / 64=1:=by omega
 have q1:(i:Int) % 64=j:=by omega
 have q2:Int.tdiv (i:Int) 64=1:=by rw [Int.tdiv_eq_ediv_of_nonneg (by omega)];exact q0
 have q3:Int.tmod (i:Int) 64=j:=by rw [Int.tmod_eq_emod_of_nonneg (by omega)];exact q1
 have HB:=af (Ce h j hl);clear hi;go_enter Tryz.func127,Tryz.ntmps127;go_wp2;go_ret;exact ⟨by rw [<-HB.out];rfl,(gO.refl _).alloc _⟩
theorem Cu (V:Nat) (h:V<=24):wrap64 ((2:Int)^V)=((2^V:Nat):Int):=by
 have h1:(2:Nat)^V<=2^24:=Nat.pow_le_pow_right (by omega) h;rw [show (2:Int)^V=((2^V:Nat):Int) by simp];generalize (2:Nat)^V=z at h1⊢;unfold wrap64;omega
theorem ID (e l h a:Nat) (V:Nat) (v:Value) (T:Int) (hs:∃ a n c,v=.slice a n c) (he:e<16777216) (hV:V<=24) (ha:a<V) (w:World) :
  Calls Tryz.prog 125 #[.agg #[.int .i64 e,.int .u64 l,.int .u64 h],.agg #[.int .i64 V,v,.int .i64 T],.int .i64 a] w fun e' w'=>e'=.returned (.agg #[.int .i64 (e ||| 2^a:Nat),.int .u64 l,.int .u64 h])/\gO w w':=by
 obtain ⟨sa,n,c,rfl⟩:=hs;have h1:(a:Int)<(V:Int):=by omega
 have h2:¬ (a:Int)<0:=by omega
 have p1:=Cu a (by omega);have hp:=zd (show a<24 by omega);obtain ⟨z,hz⟩:∃ z,z=2^a:=⟨_,rfl⟩;rw [<-hz] at p1 hp⊢;have p2:=AV e z (by omega) (by omega);clear hz;obtain ⟨y,hy⟩:∃ y,y=e ||| z:=⟨_,rfl⟩
 rw [<-hy] at p2⊢;clear hy;go_enter Tryz.func125,Tryz.ntmps125;go_wp2;go_region;all_goals go_wp2
 all_goals exact bodyPost_ret (v:=.agg #[.int .i64 y,.int .u64 l,.int .u64 h]) (by simp [results,Tryz.results125,go_sem]) rfl ⟨rfl,by first | exact ((((gO.refl _).alloc _).alloc _).alloc _) | exact ((((gO.refl _).alloc _).alloc _).alloc _).drew⟩
theorem IF (e l h j:Nat) (V:Nat) (v:Value) (T:Int) (hs:∃ a n c,v=.slice a n c) (hl:l<18446744073709551616) (hV:V<=24) (hj:j<64) (w:World) (y:Nat) (hy:y=l ||| 2^j) :
  Calls Tryz.prog 125 #[.agg #[.int .i64 e,.int .u64 l,.int .u64 h],.agg #[.int .i64 V,v,.int .i64 T],.int .i64 (V+(j):Nat)] w fun e' w'=>e'=.returned (.agg #[.int .i64 e,.int .u64 y,.int .u64 h])/\gO w w':=by
 obtain ⟨sa,n,c,rfl⟩:=hs;obtain ⟨i,hi⟩:∃ i,i=j:=⟨_,rfl⟩;obtain ⟨a,ha⟩:∃ a,a=V+i:=⟨_,rfl⟩;rw [<-hi,<-ha];have h1:¬ (a:Int)<(V:Int):=by omega
 have h3:IntKind.i64.wrap ((a:Int) - (V:Int))=(i:Int):=by rw [IntKind.wrap_i64];omega
 have h4:(a:Int) - (V:Int)=(i:Int):=by omega
 have q0:(i:Int) / 64=0:=by omega
 have q1:(i:Int) % 64=j:=by omega
 have q2:Int.tdiv (i:Int) 64=0:=by rw [Int.tdiv_eq_ediv_of_nonneg (by omega)];exact q0
 have q3:Int.tmod (i:Int) 64=j:=by rw [Int.tmod_eq_emod_of_nonneg (by omega)];exact q1
 have q4:¬ (j:Int)<0:=by omega
 have p1:=sX j hj;have hp:=qT hj;obtain ⟨z,hz⟩:∃ z,z=2^j:=⟨_,rfl⟩;rw [<-hz] at p1 hp hy;have p2:=tR l z hl hp;rw [<-hy] at p2;clear hz hy hi ha;go_enter Tryz.func125,Tryz.ntmps125;go_wp2;go_region;all_goals go_wp2
 all_goals exact bodyPost_ret (v:=.agg #[.int .i64 e,.int .u64 y,.int .u64 h]) (by simp [results,Tryz.results125,go_sem]) rfl ⟨rfl,by first | exact ((((gO.refl _).alloc _).alloc _).alloc _) | exact ((((gO.refl _).alloc _).alloc _).alloc _).drew⟩
theorem BW (e l h j:Nat) (hl:l<18446744073709551616) (hj:j<64) (w:World) (y:Nat) (hy:y=iH l (2^j)) :
  Calls Tryz.prog 184 #[.agg #[.int .i64 e,.int .u64 l,.int .u64 h],.int .i64 (j:Nat)] w fun e' w'=>e'=.returned (.agg #[.int .i64 e,.int .u64 y,.int .u64 h])/\gO w w':=by
 obtain ⟨i,hi⟩:∃ i,i=j:=⟨_,rfl⟩;rw [<-hi];have q0:(i:Int) / 64=0:=by omega
 have q1:(i:Int) % 64=j:=by omega
 have q2:Int.tdiv (i:Int) 64=0:=by rw [Int.tdiv_eq_ediv_of_nonneg (by omega)];exact q0
 have q3:Int.tmod (i:Int) 64=j:=by rw [Int.tmod_eq_emod_of_nonneg (by omega)];exact q1
 have q4:¬ (j:Int)<0:=by omega
 have p1:=sX j hj;have hp:=qT hj;obtain ⟨z,hz⟩:∃ z,z=2^j:=⟨_,rfl⟩;rw [<-hz] at p1 hp hy;have p2:=pA l z hl hp;rw [<-hy] at p2;clear hz hy hi;go_enter Tryz.func184,Tryz.ntmps184;go_wp2;go_region;all_goals go_wp2
 all_goals exact bodyPost_ret (v:=.agg #[.int .i64 e,.int .u64 y,.int .u64 h]) (by simp [results,Tryz.results184,go_sem]) rfl ⟨rfl,by first | exact ((((gO.refl _).alloc _).alloc _)) | exact ((((gO.refl _).alloc _).alloc _)).drew⟩
theorem IE (e l h j:Nat) (V:Nat) (v:Value) (T:Int) (hs:∃ a n c,v=.slice a n c) (hl:h<18446744073709551616) (hV:V<=24) (hj:j<64) (w:World) (y:Nat) (hy:y=h ||| 2^j) :
  Calls Tryz.prog 125 #[.agg #[.int .i64 e,.int .u64 l,.int .u64 h],.agg #[.int .i64 V,v,.int .i64 T],.int .i64 (V+(64+j):Nat)] w fun e' w'=>e'=.returned (.agg #[.int .i64 e,.int .u64 l,.int .u64 y])/\gO w w':=by
 obtain ⟨sa,n,c,rfl⟩:=hs;obtain ⟨i,hi⟩:∃ i,i=64+j:=⟨_,rfl⟩;obtain ⟨a,ha⟩:∃ a,a=V+i:=⟨_,rfl⟩;rw [<-hi,<-ha];have h1:¬ (a:Int)<(V:Int):=by omega
 have h3:IntKind.i64.wrap ((a:Int) - (V:Int))=(i:Int):=by rw [IntKind.wrap_i64];omega
 have h4:(a:Int) - (V:Int)=(i:Int):=by omega
 have q0:(i:Int) / 64=1:=by omega
 have q1:(i:Int) % 64=j:=by omega
 have q2:Int.tdiv (i:Int) 64=1:=by rw [Int.tdiv_eq_ediv_of_nonneg (by omega)];exact q0
 have q3:Int.tmod (i:Int) 64=j:=by rw [Int.tmod_eq_emod_of_nonneg (by omega)];exact q1
 have q4:¬ (j:Int)<0:=by omega
 have p1:=sX j hj;have hp:=qT hj;obtain ⟨z,hz⟩:∃ z,z=2^j:=⟨_,rfl⟩;rw [<-hz] at p1 hp hy;have p2:=tR h z hl hp;rw [<-hy] at p2;clear hz hy hi ha;go_enter Tryz.func125,Tryz.ntmps125;go_wp2;go_region;all_goals go_wp2
 all_goals exact bodyPost_ret (v:=.agg #[.int .i64 e,.int .u64 l,.int .u64 y]) (by simp [results,Tryz.results125,go_sem]) rfl ⟨rfl,by first | exact ((((gO.refl _).alloc _).alloc _).alloc _) | exact ((((gO.refl _).alloc _).alloc _).alloc _).drew⟩
theorem BV (e l h j:Nat) (hl:h<18446744073709551616) (hj:j<64) (w:World) (y:Nat) (hy:y=iH h (2^j)) :
  Calls Tryz.prog 184 #[.agg #[.int .i64 e,.int .u64 l,.int .u64 h],.int .i64 (64+j:Nat)] w fun e' w'=>e'=.returned (.agg #[.int .i64 e,.int .u64 l,.int .u64 y])/\gO w w':=by
 obtain ⟨i,hi⟩:∃ i,i=64+j:=⟨_,rfl⟩;rw [<-hi];have q0:(i:Int) / 64=1:=by omega
 have q1:(i:Int) % 64=j:=by omega
 have q2:Int.tdiv (i:Int) 64=1:=by rw [Int.tdiv_eq_ediv_of_nonneg (by omega)];exact q0
 have q3:Int.tmod (i:Int) 64=j:=by rw [Int.tmod_eq_emod_of_nonneg (by omega)];exact q1
 have q4:¬ (j:Int)<0:=by omega
 have p1:=sX j hj;have hp:=qT hj;obtain ⟨z,hz⟩:∃ z,z=2^j:=⟨_,rfl⟩;rw [<-hz] at p1 hp hy;have p2:=pA h z hl hp;rw [<-hy] at p2;clear hz hy hi;go_enter Tryz.func184,Tryz.ntmps184;go_wp2;go_region;all_goals go_wp2
 all_goals exact bodyPost_ret (v:=.agg #[.int .i64 e,.int .u64 l,.int .u64 y]) (by simp [results,Tryz.results184,go_sem]) rfl ⟨rfl,by first | exact ((((gO.refl _).alloc _).alloc _)) | exact ((((gO.refl _).alloc _).alloc _)).drew⟩
def je:List Nat->Nat
 | []=>0
 | a :: l=>a+256*je l
def lW (m:Nat) (l:List Nat):Nat:=je (l.map fun _=>m)
theorem Jg (l:List Nat) (h:∀ a∈l,a<256):(je l / 2 &&& lW 0x55 l)+(je l &&& lW 0x55 l)=je (l.map t1):=by
 induction l with
 | nil=>simp [je,lW]
 | cons a l ih =>
  have ha:=h a (List.mem_cons_self ..);have ih':=ih fun x hx=>h x (List.mem_cons_of_mem _ hx)
  have hk:=rX a ha;show ((a+256*je l) / 2 &&& (0x55+256*lW 0x55 l))+((a+256*je l) &&& (0x55+256*lW 0x55 l))=t1 a+256*je (l.map t1)
  rw [show (a+256*je l) / 2=256*(je l / 2)+(a / 2+128*(je l % 2)) by omega,show a+256*je l=256*je l+a by omega,show 0x55+256*lW 0x55 l=256*lW 0x55 l+0x55 by omega,
   mJ _ _ _ _ (by omega) (by omega),mJ _ _ _ _ ha (by omega),<-ih']
  have e:(a / 2+128*(je l % 2)) &&& 0x55=a / 2 &&& 0x55:=by
   have:je l % 2=0\/je l % 2=1:=by omega
   rcases this with h | h <;> rw [h]
   ·rfl
   ·exact hk.1.symm
  rw [e];unfold t1;omega
theorem Jh (l:List Nat) (h:∀ a∈l,a<171):(je l / 4 &&& lW 0x33 l)+(je l &&& lW 0x33 l)=je (l.map t2):=by
 induction l with
 | nil=>simp [je,lW]
 | cons a l ih =>
  have ha:=h a (List.mem_cons_self ..);have ih':=ih fun x hx=>h x (List.mem_cons_of_mem _ hx)
  have hk:=rY a ha (je l % 4) (by omega);show ((a+256*je l) / 4 &&& (0x33+256*lW 0x33 l))+((a+256*je l) &&& (0x33+256*lW 0x33 l))=t2 a+256*je (l.map t2)
  rw [show (a+256*je l) / 4=256*(je l / 4)+(a / 4+64*(je l % 4)) by omega,show a+256*je l=256*je l+a by omega,show 0x33+256*lW 0x33 l=256*lW 0x33 l+0x33 by omega,
   mJ _ _ _ _ (by omega) (by omega),mJ _ _ _ _ (by omega) (by omega),<-ih',<-hk.1]
  unfold t2;omega
theorem CK (l:List Nat):je l % 16=(l.headD 0) % 16:=by
 cases l with
 | nil=>rfl
 | cons a l=>show (a+256*je l) % 16=a % 16;omega
theorem Ji (l:List Nat) (h:∀ a∈l,a<103/\a % 16<7):(je l / 16+je l) &&& lW 15 l=je (l.map t3):=by
 induction l with
 | nil=>simp [je,lW]
 | cons a l ih =>
  have ha:=h a (List.mem_cons_self ..);have ih':=ih fun x hx=>h x (List.mem_cons_of_mem _ hx)
  have hm:je l % 16<7:=by
   rw [CK];cases l with
   | nil=>decide
   | cons b l=>exact (h b (by simp)).2
  have hk:=Ch a ha.1 (je l % 16) hm;show ((a+256*je l) / 16+(a+256*je l)) &&& (15+256*lW 15 l)=t3 a+256*je (l.map t3)
  rw [show (a+256*je l) / 16+(a+256*je l)=256*(je l / 16+je l)+(a / 16+16*(je l % 16)+a) by omega,show 15+256*lW 15 l=256*lW 15 l+15 by omega,
   mJ _ _ _ _ (by omega) (by omega),ih',hk.1]
  omega
theorem wM (l:List Nat) (h:∀ a∈l,a<256):je l<256^l.length:=by
 induction l with
 | nil=>simp [je]
 | cons a l ih =>
  have ha:=h a (List.mem_cons_self ..);have ih':=ih fun x hx=>h x (List.mem_cons_of_mem _ hx)
  show a+256*je l<256^(l.length+1);rw [Nat.pow_succ];omega
theorem JF (l:List Nat) (h:∀ a∈l,a<256):pc (je l)=(l.map pc).sum:=by
 induction l with
 | nil=>simp [je,nS]
 | cons a l ih =>
  show pc (a+256*je l)=pc a+(l.map pc).sum;rw [Nat.add_comm,nR a _ (h a (List.mem_cons_self ..)),ih fun x hx=>h x (List.mem_cons_of_mem _ hx)]
theorem Jf (n:Nat) (h:n<18446744073709551616):∃ l:List Nat,l.length=8/\(∀ a∈l,a<256)/\n=je l:=by
 refine ⟨[n % 256,n / 256 % 256,n / 65536 % 256,n / 16777216 % 256,n / 4294967296 % 256,n / 1099511627776 % 256,n / 281474976710656 % 256,n / 72057594037927936],rfl,?_,?_⟩
 ·intro a ha;simp only [List.mem_cons,List.not_mem_nil,or_false] at ha;omega
 ·simp only [je];omega
theorem Hi (l:List Nat) (h:∀ a∈l,a<103) (k:Nat) (hl:l.length=k):je l<=102*je (List.replicate k 1):=by
 subst hl;induction l with
 | nil=>simp [je]
 | cons a l ih =>
  have ha:=h a (List.mem_cons_self ..);have ih':=ih fun x hx=>h x (List.mem_cons_of_mem _ hx)
  show a+256*je l<=102*(1+256*je (List.replicate l.length 1));omega
theorem Hr (a m b:Nat) (h:a<m):(a+m*b) / m=b:=by rw [Nat.add_mul_div_left _ _ (by omega),Nat.div_eq_of_lt h,Nat.zero_add]
def mp:List Nat->List Nat->List Nat
 | [],r=>r
 | a :: l,[]=>a :: l
 | a :: l,b :: r=>(a+b) :: mp l r
theorem yd:∀ l r,je (mp l r)=je l+je r
 | [],r=>by simp [mp,je]
 | a :: l,[]=>by simp [mp,je]
 | a :: l,b :: r=>by
  show (a+b)+256*je (mp l r)=(a+256*je l)+(b+256*je r);rw [yd l r];omega
theorem B_ (x y:Nat):∀ l r,(∀ a∈l,a<x+1)->(∀ a∈r,a<y+1)->∀ a∈mp l r,a<x+y+1
 | [],r,_,h2=>fun a ha=>by have:=h2 a ha;omega
 | a :: l,[],h1,_=>fun x hx=>by have:=h1 x hx;omega
 | a :: l,b :: r,h1,h2=>fun z hz=>by
  rcases List.mem_cons.1 hz with e | e
  ·have:=h1 a (by simp);have:=h2 b (by simp);omega
  ·exact B_ x y l r (fun q hq=>h1 q (List.mem_cons_of_mem _ hq)) (fun q hq=>h2 q (List.mem_cons_of_mem _ hq)) z e
theorem xX:∀ l r:List Nat,r.length<=l.length->(mp l r).length=l.length
 | [],r,h=>by simpa [mp] using h
 | a :: l,[],_=>rfl
 | a :: l,b :: r,h=>by simp only [mp,List.length_cons];rw [xX l r (by simpa using h)]
theorem vp:∀ (k:Nat) (l:List Nat),je l=je (l.take k)+256^k*je (l.drop k)
 | 0,l=>by simp [je]
 | k+1,[]=>by simp [je]
 | k+1,a :: l=>by
  show a+256*je l=(a+256*je (l.take k))+256^(k+1)*je (l.drop k);have:=vp k l;rw [this,Nat.pow_succ,Nat.mul_add,Nat.mul_comm (256^k) 256,Nat.mul_assoc];omega
theorem rQ (f:Int->Int) (k m:Nat) (M:Int) (hM:M=(m:Int)) (hm:m=256^k) (hf:∀ x,f x=IntKind.u64.wrap (x+x / M)) (l:List Nat) (hl:l.length=8) (x:Nat) (hx:∀ a∈l,a<x+1) (h9:x+x<256) :
  f (je l:Nat)=(je (mp l (l.drop k)):Nat)/\(mp l (l.drop k)).length=8/\∀ a∈mp l (l.drop k),a<x+x+1:=by
 have hb:=B_ x x l (l.drop k) hx fun a ha=>hx a (List.mem_of_mem_drop ha)
 have ag:(mp l (l.drop k)).length=8:=by rw [xX _ _ (by simp),hl]
 refine ⟨?_,ag,hb⟩
 have ah:je (mp l (l.drop k))<18446744073709551616:=by
  have:=wM (mp l (l.drop k)) fun a ha=>by have:=hb a ha;omega
  rw [ag] at this;exact this
 have ha:je (l.take k)<m:=by
  have:=wM (l.take k) fun a ha=>by have:=hx a (List.mem_of_mem_take ha);omega
  rw [hm];exact Nat.lt_of_lt_of_le this (Nat.pow_le_pow_right (by omega) (by simp;omega))
 have hs:=vp k l;rw [<-hm] at hs;have hd:je l / m=je (l.drop k):=by rw [hs];exact Hr _ _ _ ha
 rw [hf,hM,show ((je l:Nat):Int) / (m:Int)=((je l / m:Nat):Int) by simp,hd,<-Int.natCast_add,<-yd];exact wrap_u64 _ ah
def vF (l:List Nat):List Nat:=mp (mp (mp l (l.drop 1)) ((mp l (l.drop 1)).drop 2)) ((mp (mp l (l.drop 1)) ((mp l (l.drop 1)).drop 2)).drop 4)
theorem As (l:List Nat) (hl:l.length=8):∃ r,vF l=l.sum :: r:=by
 match l,hl with
 | [y0,y1,y2,y3,y4,y5,y6,y7],_ =>
  refine ⟨(vF [y0,y1,y2,y3,y4,y5,y6,y7]).tail,?_⟩;simp only [vF,mp,List.drop,List.tail,List.sum_cons,List.sum_nil];exact List.cons_eq_cons.2 ⟨by omega,rfl⟩
theorem Je:∀ (r:List Nat),(∀ a∈r,a<65)->je r<=64*je (List.replicate r.length 1):=by
 intro r;induction r with
 | nil=>intro _;simp [je]
 | cons a r ih =>
  intro h;have h1:=h a (List.mem_cons_self ..);have h2:=ih (fun x hx=>h x (List.mem_cons_of_mem _ hx));show a+256*je r<=64*(1+256*je (List.replicate r.length 1));omega
theorem GL (p q:Nat) (hp:p<65) (h:p+256*q<9223372036854775808):bits .and .i64 (wrap64 ((p+256*q:Nat):Int)) 127=(p:Int):=by
 rw [show wrap64 ((p+256*q:Nat):Int)=((p+256*q:Nat):Int) from by unfold wrap64;omega,show (127:Int)=((127:Nat):Int) from rfl,oV _ _ h (by decide)];rw [show (127:Nat)=2^7 - 1 from rfl,Nat.and_two_pow_sub_one_eq_mod];omega
theorem Eh (l:List Nat) (hl:l.length=8) (hb:∀ a∈l,a<8+1):s6 (s5 (s4 ((je l:Nat):Int)))=((je (vF l):Nat):Int)/\(vF l).length=8/\∀ a∈vF l,a<65:=by
 obtain ⟨e1,l1,b1⟩:=rQ s4 1 256 256 rfl (by decide) (fun _=>rfl) l hl 8 hb (by omega);obtain ⟨e2,l2,b2⟩:=rQ s5 2 65536 65536 rfl (by decide) (fun _=>rfl) _ l1 16 b1 (by omega);obtain ⟨e3,l3,b3⟩:=rQ s6 4 4294967296 4294967296 rfl (by decide) (fun _=>rfl) _ l2 32 b2 (by omega);refine ⟨?_,l3,b3⟩;rw [e1,e2,e3];rfl
theorem GM (l:List Nat) (hl:l.length=8) (hb:∀ a∈l,a<8+1):bits .and .i64 (wrap64 (s6 (s5 (s4 ((je l:Nat):Int))))) 127=((l.sum:Nat):Int):=by
 obtain ⟨e,ag,hB⟩:=Eh l hl hb;obtain ⟨r,hr⟩:=As l hl;have ah:=Je _ hB;rw [ag,show je (List.replicate 8 1)=72340172838076673 from rfl] at ah;rw [e];rw [hr] at ah hB⊢;have hp:=hB _ (List.mem_cons_self ..);exact GL _ (je r) hp (by have:l.sum+256*je r<=64*72340172838076673:=ah;omega)
theorem yT (n:Nat) (h:n<18446744073709551616):IW (n:Int)=(pc n:Nat):=by
 obtain ⟨l,hl,hb,rfl⟩:=Jf n h;rw [JF l hb]
 have r1:lW 0x55 l=6148914691236517205:=by
  unfold lW;rw [List.map_const',hl];rfl
 have r2:lW 0x33 (l.map t1)=3689348814741910323:=by
  unfold lW;rw [List.map_const',List.length_map,hl];rfl
 have r3:lW 15 ((l.map t1).map t2)=1085102592571150095:=by
  unfold lW;rw [List.map_const',List.length_map,List.length_map,hl];rfl
 have b1:∀ a∈l.map t1,a<171:=by
  intro a ha;obtain ⟨x,hx,rfl⟩:=List.mem_map.1 ha;exact (rX x (hb x hx)).2
 have b2:∀ a∈(l.map t1).map t2,a<103/\a % 16<7:=by
  intro a ha;obtain ⟨x,hx,rfl⟩:=List.mem_map.1 ha;exact (rY x (b1 x hx) 0 (by omega)).2
 have l1:je (l.map t1)<18446744073709551616:=by
  have:=wM (l.map t1) fun a ha=>by have:=b1 a ha;omega
  rw [List.length_map,hl] at this;exact this
 have l2:je ((l.map t1).map t2)<18446744073709551616:=by
  have:=wM ((l.map t1).map t2) fun a ha=>by have:=(b2 a ha).1;omega
  rw [List.length_map,List.length_map,hl] at this;exact this
 have e1:s1 ((je l:Nat):Int)=((je (l.map t1):Nat):Int):=by
  unfold s1;have:=Jg l hb;rw [r1] at this;rw [show ((je l:Nat):Int) / 2=((je l / 2:Nat):Int) by omega,show (6148914691236517205:Int)=((6148914691236517205:Nat):Int) from rfl,lk _ _ (by omega) (by decide),lk _ _ h (by decide),<-Int.natCast_add,this];exact wrap_u64 _ l1
 have e2:s2 ((je (l.map t1):Nat):Int)=((je ((l.map t1).map t2):Nat):Int):=by
  unfold s2;have:=Jh (l.map t1) b1;rw [r2] at this;rw [show ((je (l.map t1):Nat):Int) / 4=((je (l.map t1) / 4:Nat):Int) by omega,show (3689348814741910323:Int)=((3689348814741910323:Nat):Int) from rfl,lk _ _ (by omega) (by decide),lk _ _ l1 (by decide),<-Int.natCast_add,this];exact wrap_u64 _ l2
 have e3:s3 ((je ((l.map t1).map t2):Nat):Int)=((je (((l.map t1).map t2).map t3):Nat):Int):=by
  unfold s3;have:=Ji _ b2;rw [r3] at this;have ag:=Hi ((l.map t1).map t2) (fun a ha=>(b2 a ha).1) 8 (by simp [hl]);rw [show je (List.replicate 8 1)=72340172838076673 from rfl] at ag;rw [show ((je ((l.map t1).map t2):Nat):Int) / 16+((je ((l.map t1).map t2):Nat):Int)=((je ((l.map t1).map t2) / 16+je ((l.map t1).map t2):Nat):Int) by omega,wrap_u64 _ (by omega),show (1085102592571150095:Int)=((1085102592571150095:Nat):Int) from rfl,lk _ _ (by omega) (by decide),this]
 unfold IW
 rw [e1,e2,e3,GM _ (by simp [hl]) (fun a ha=>by
  obtain ⟨y,hy,rfl⟩:=List.mem_map.1 ha;obtain ⟨z,hz,rfl⟩:=List.mem_map.1 hy;obtain ⟨x,hx,rfl⟩:=List.mem_map.1 hz;exact sU x (hb x hx))]
 rw [List.map_map,List.map_map];congr 2;exact List.map_congr_left fun x hx=>xo x (hb x hx)
def iM (c:Nat):Nat:=c % 16777216
def jK (c:Nat):Nat:=c / 16777216 % 18446744073709551616
def jF (c:Nat):Nat:=c / 309485009821345068724781056
theorem jn (c i:Nat):(iM c).testBit i=(decide (i<24)&&c.testBit i):=by
 unfold iM;rw [show (16777216:Nat)=2^24 from rfl,Nat.testBit_mod_two_pow]
theorem jD (c i:Nat):(jK c).testBit i=(decide (i<64)&&c.testBit (24+i)):=by
 unfold jK;rw [show (18446744073709551616:Nat)=2^64 from rfl,show (16777216:Nat)=2^24 from rfl,Nat.testBit_mod_two_pow,Nat.testBit_div_two_pow,Nat.add_comm]
theorem jC (c i:Nat):(jF c).testBit i=c.testBit (88+i):=by
 unfold jF;rw [show (309485009821345068724781056:Nat)=2^88 from rfl,Nat.testBit_div_two_pow,Nat.add_comm]
theorem nH (c:Nat):iM c<16777216:=Nat.mod_lt _ (by decide)
theorem nN (c:Nat):jK c<18446744073709551616:=Nat.mod_lt _ (by decide)
theorem oJ {c:Nat} (h:ie 152 c):jF c<18446744073709551616:=by
 have:=nA h;unfold jF;refine Nat.div_lt_of_lt_mul ?_;exact Nat.lt_of_lt_of_le this (by decide)
abbrev km (c:Nat):Value:=.agg #[.int .i64 (iM c),.int .u64 (jK c),.int .u64 (jF c)]
theorem iU (c m i:Nat):(c ||| 2^m).testBit i=(c.testBit i||decide (m=i)):=by
 rw [Nat.testBit_or,Nat.testBit_two_pow]
theorem Co {c a:Nat} (h:a<24):iM (c ||| 2^a)=iM c ||| 2^a/\jK (c ||| 2^a)=jK c/\jF (c ||| 2^a)=jF c:=by
 refine ⟨?_,?_,?_⟩ <;> apply Nat.eq_of_testBit_eq <;> intro i
 ·rw [jn,iU,iU,jn];by_cases h1:i<24
  ·simp [h1]
  ·simp [h1];omega
 ·rw [jD,iU,jD];by_cases h1:i<64
  ·simp [h1];omega
  ·simp [h1]
 ·rw [jC,iU,jC];simp;omega
theorem H_ {c j:Nat} (h:j<64):iM (c ||| 2^(24+j))=iM c/\jK (c ||| 2^(24+j))=jK c ||| 2^j/\jF (c ||| 2^(24+j))=jF c:=by
 refine ⟨?_,?_,?_⟩ <;> apply Nat.eq_of_testBit_eq <;> intro i
 ·rw [jn,iU,jn];by_cases h1:i<24
  ·simp [h1];omega
  ·simp [h1]
 ·rw [jD,iU,iU,jD];by_cases h1:i<64
  ·simp [h1]
  ·simp [h1];omega
 ·rw [jC,iU,jC];simp;omega
theorem Hv {c j:Nat}:iM (c ||| 2^(24+(64+j)))=iM c/\jK (c ||| 2^(24+(64+j)))=jK c/\jF (c ||| 2^(24+(64+j)))=jF c ||| 2^j:=by
 refine ⟨?_,?_,?_⟩ <;> apply Nat.eq_of_testBit_eq <;> intro i
 ·rw [jn,iU,jn];by_cases h1:i<24
  ·simp [h1];omega
  ·simp [h1]
 ·rw [jD,iU,jD];by_cases h1:i<64
  ·simp [h1];omega
  ·simp [h1]
 ·rw [jC,iU,iU,jC];congr 1;rw [decide_eq_decide];omega
theorem jr (c m i:Nat):(iH c (2^m)).testBit i=(c.testBit i&&!decide (m=i)):=by
 rw [lg,Nat.testBit_two_pow]
theorem AH {c j:Nat} (h:j<64):iM (iH c (2^(24+j)))=iM c/\jK (iH c (2^(24+j)))=iH (jK c) (2^j)/\jF (iH c (2^(24+j)))=jF c:=by
 refine ⟨?_,?_,?_⟩ <;> apply Nat.eq_of_testBit_eq <;> intro i
 ·rw [jn,jr,jn];by_cases h1:i<24
  ·simp [h1];omega
  ·simp [h1]
 ·rw [jD,jr,jr,jD];by_cases h1:i<64
  ·simp [h1]
  ·simp [h1]
 ·rw [jC,jr,jC];simp;omega
theorem AA {c j:Nat}:iM (iH c (2^(24+(64+j))))=iM c/\jK (iH c (2^(24+(64+j))))=jK c/\jF (iH c (2^(24+(64+j))))=iH (jF c) (2^j):=by
 refine ⟨?_,?_,?_⟩ <;> apply Nat.eq_of_testBit_eq <;> intro i
 ·rw [jn,jr,jn];by_cases h1:i<24
  ·simp [h1];omega
  ·simp [h1]
 ·rw [jD,jr,jD];by_cases h1:i<64
  ·simp [h1];omega
  ·simp [h1]
 ·rw [jC,jr,jr,jC];congr 2;rw [decide_eq_decide];omega
theorem Gu {c:Nat} (hc:ie 152 c) (i:Nat) (hi:i<128) (w:World):Calls Tryz.prog 127 #[km c,.int .i64 i] w fun e w'=>e=.returned (.bool (c.testBit (24+i)))/\gO w w':=by
 by_cases h:i<64
 ·have:=Jr (iM c) (jK c) (jF c) i (nN c) h w;rw [jD,decide_eq_true h,Bool.true_and] at this;exact this
 ·obtain ⟨j,rfl⟩:∃ j,i=64+j:=⟨i - 64,by omega⟩;have:=Jq (iM c) (jK c) (jF c) j (oJ hc) (by omega) w;rw [jC,show 88+j=24+(64+j) by omega] at this;exact this
theorem pi {c:Nat} (hc:ie 152 c) (V:Nat) (v:Value) (T:Int) (hs:∃ a n c,v=.slice a n c) (hV:V<=24) (a:Int) (ha:0<=a/\a<(V:Int)+128) (w:World) :
  Calls Tryz.prog 125 #[km c,.agg #[.int .i64 V,v,.int .i64 T],.int .i64 a] w fun e w'=>e=.returned (km (iv V c a))/\gO w w':=by
 obtain ⟨A,rfl⟩:=Int.eq_ofNat_of_zero_le ha.1;unfold iv cond;by_cases h:A<V
 ·rw [if_pos (by omega),Int.toNat_natCast];have:=ID (iM c) (jK c) (jF c) A V v T hs (nH c) hV h w;obtain ⟨e1,e2,e3⟩:=Co (c:=c) (a:=A) (by omega);unfold km;rw [e1,e2,e3];exact this
 ·rw [if_neg (by omega)];obtain ⟨i,rfl⟩:∃ i,A=V+i:=⟨A - V,by omega⟩;rw [show (((V+i:Nat):Int) - (V:Int)).toNat=i by omega];unfold km;by_cases h6:i<64
  ·obtain ⟨e1,e2,e3⟩:=H_ (c:=c) (j:=i) h6;rw [e1,e2,e3];exact IF (iM c) (jK c) (jF c) i V v T hs (nN c) hV h6 w _ rfl
  ·obtain ⟨j,rfl⟩:∃ j,i=64+j:=⟨i - 64,by omega⟩;obtain ⟨e1,e2,e3⟩:=Hv (c:=c) (j:=j);rw [e1,e2,e3];exact IE (iM c) (jK c) (jF c) j V v T hs (oJ hc) hV (by omega) w _ rfl
theorem xM {c:Nat} (hc:ie 152 c) (i:Nat) (hi:i<128) (w:World):Calls Tryz.prog 184 #[km c,.int .i64 i] w fun e w'=>e=.returned (km (iH c (2^(24+i))))/\gO w w':=by
 unfold km;by_cases h6:i<64
 ·obtain ⟨e1,e2,e3⟩:=AH (c:=c) (j:=i) h6;rw [e1,e2,e3];exact BW (iM c) (jK c) (jF c) i (nN c) h6 w _ rfl
 ·obtain ⟨j,rfl⟩:∃ j,i=64+j:=⟨i - 64,by omega⟩;obtain ⟨e1,e2,e3⟩:=AA (c:=c) (j:=j);rw [e1,e2,e3];exact BV (iM c) (jK c) (jF c) j (oJ hc) (by omega) w _ rfl
theorem Gz (c:Nat):c=2^88*jF c+(2^24*jK c+iM c):=by
 unfold jF jK iM;have h1:=Nat.div_add_mod c 16777216;have h2:=Nat.div_add_mod (c / 16777216) 18446744073709551616;rw [Nat.div_div_eq_div_mul] at h2;rw [show (309485009821345068724781056:Nat)=16777216*18446744073709551616 from rfl,show (2:Nat)^88=16777216*18446744073709551616 from rfl,show (2:Nat)^24=16777216 from rfl];generalize c / (16777216*18446744073709551616)=h at *;generalize c / 16777216 % 18446744073709551616=l at *;omega
theorem yV:∀ k n,n<2^k->∀ h,pc (2^k*h+n)=pc n+pc h:=by
 intro k;induction k with
 | zero =>
      intro n hn h;have:n=0:=by simpa using hn
      subst this;rw [nS];simp
 | succ k ih =>
  intro n hn h;rw [j_,j_ n];have e1:(2^(k+1)*h+n) % 2=n % 2:=by rw [Nat.pow_succ,Nat.mul_comm (2^k) 2,Nat.mul_assoc];omega
  have e2:(2^(k+1)*h+n) / 2=2^k*h+n / 2:=by rw [Nat.pow_succ,Nat.mul_comm (2^k) 2,Nat.mul_assoc];omega
  rw [e1,e2,ih (n / 2) (by rw [Nat.pow_succ] at hn;omega) h];omega
theorem JG (c:Nat):pc c=pc (iM c)+pc (jK c)+pc (jF c):=by
 have h:=Gz c;have h1:=nH c;have h2:=nN c
 have e1:2^24*jK c+iM c<2^88:=by
  rw [show (2:Nat)^24=16777216 from rfl,show (2:Nat)^88=309485009821345068724781056 from rfl];omega
 conv=>lhs;rw [h]
 rw [yV 88 _ e1,yV 24 _ (by rw [show (2:Nat)^24=16777216 from rfl];exact h1)]
theorem Iy (a b:Nat):iE a b=(iE (iM a) (iM b)&&(iE (jK a) (jK b)&&iE (jF a) (jF b))):=by
 rw [Bool.eq_iff_iff,Bool.and_eq_true,Bool.and_eq_true,iI,iI,iI,iI];constructor
 ·intro h;refine ⟨fun i hi=>?_,fun i hi=>?_,fun i hi=>?_⟩
  ·rw [jn] at hi⊢;simp at hi⊢;exact ⟨hi.1,h i hi.2⟩
  ·rw [jD] at hi⊢;simp at hi⊢;exact ⟨hi.1,h _ hi.2⟩
  ·rw [jC] at hi⊢;exact h _ hi
 ·rintro ⟨h1,h2,h3⟩ i hi;by_cases c1:i<24
  ·have:=h1 i (by rw [jn];simp [c1,hi]);rw [jn] at this;simp at this;exact this.2
  ·by_cases c2:i<88
   ·have:=h2 (i - 24) (by rw [jD,show 24+(i - 24)=i by omega];simp [hi];omega);rw [jD,show 24+(i - 24)=i by omega] at this;simp at this;exact this.2
   ·have:=h3 (i - 88) (by rw [jC,show 88+(i - 88)=i by omega];exact hi);rw [jC,show 88+(i - 88)=i by omega] at this;exact this
theorem yU (n:Nat):∀ c,c<2^n->pc c<=n:=by
 induction n with
 | zero =>
      intro c h;have:c=0:=by simpa using h
      subst this;rw [nS];omega
 | succ n ih =>
  intro c h;rw [j_];have:=ih (c / 2) (by rw [Nat.pow_succ] at h;omega);omega
theorem CE (a b:Nat) (ha:a<9223372036854775808) (hb:b<9223372036854775808):(bits .andNot .i64 (a:Int) (b:Int) == 0)=iE a b:=by
 rw [td a b ha hb];unfold iE;rw [Bool.eq_iff_iff];simp
theorem CF (a b:Nat) (ha:a<18446744073709551616) (hb:b<18446744073709551616):(bits .andNot .u64 (a:Int) (b:Int) == 0)=iE a b:=by
 rw [pA a b ha hb];unfold iE;rw [Bool.eq_iff_iff];simp
theorem DX {a b:Nat} (ha:ie 152 a) (hb:ie 152 b) (w:World):Calls Tryz.prog 192 #[km a,km b] w fun e w'=>e=.returned (.bool (iE a b))/\∃ C O,w'=(w.alloc C).alloc O:=by
 have b1:=CE (iM a) (iM b) (by have:=nH a;omega) (by have:=nH b;omega);have b2:=CF (jK a) (jK b) (nN a) (nN b);have b3:=CF (jF a) (jF b) (oJ ha) (oJ hb);rw [Iy];generalize iE (iM a) (iM b)=x1 at *;generalize iE (jK a) (jK b)=x2 at *;generalize iE (jF a) (jF b)=x3 at *;unfold km;generalize iM a=ea at *;generalize iM b=eb at *;generalize jK a=la at *;generalize jK b=lb at *;generalize jF a=za at *;generalize jF b=zb at *;clear ha hb;cases x1 with
 | false =>
  go_enter Tryz.func192,Tryz.ntmps192;go_wp2;go_ret;exact ⟨rfl,_,_,rfl⟩
 | true =>
  cases x2 with
  | false =>
   go_enter Tryz.func192,Tryz.ntmps192;go_wp2;go_ret;exact ⟨rfl,_,_,rfl⟩
  | true =>
   go_enter Tryz.func192,Tryz.ntmps192;go_wp2;go_ret;exact ⟨by cases x3 <;> rfl,_,_,rfl⟩
theorem wg {c:Nat} (hc:ie 152 c) (w:World):Calls Tryz.prog 189 #[km c] w fun e w'=>e=.returned (.int .i64 (pc c))/\∃ C n,w'=(w.alloc C).drewN n:=by
 have h1:∀ W,Calls Tryz.prog 134 #[.int .i64 (iM c)] W fun e w'=>e=.returned (.int .i64 (pc (iM c)))/\w'=W:=fun W=>(vw (nH c) W).mono fun _ _ h=>⟨h.1,h.2.symm⟩
 have h2:∀ W,Calls Tryz.prog 241 #[.int .u64 (jK c)] W fun e w'=>e=.returned (.int .i64 (pc (jK c)))/\w'=W:=fun W=>(qe _ W).mono fun _ _ h=>⟨by rw [h.1,yT _ (nN c)],h.2.symm⟩
 have h3:∀ W,Calls Tryz.prog 241 #[.int .u64 (jF c)] W fun e w'=>e=.returned (.int .i64 (pc (jF c)))/\w'=W:=fun W=>(qe _ W).mono fun _ _ h=>⟨by rw [h.1,yT _ (oJ hc)],h.2.symm⟩
 have e1:=yU 24 (iM c) (nH c);have e2:=yU 64 (jK c) (nN c);have e3:=yU 64 (jF c) (oJ hc);rw [JG c];unfold km;generalize pc (iM c)=p1 at *;generalize pc (jK c)=p2 at *;generalize pc (jF c)=p3 at *;generalize iM c=ea at *;generalize jK c=la at *;generalize jF c=za at *;have H1:=af h1;have H2:=af h2;have H3:=af h3;have w1:IntKind.i64.wrap ((p1:Int)+(p2:Int))=(p1:Int)+(p2:Int):=by rw [IntKind.wrap_i64];omega
 have w2:IntKind.i64.wrap ((p1:Int)+(p2:Int)+(p3:Int))=(p1:Int)+(p2:Int)+(p3:Int):=by rw [IntKind.wrap_i64];omega
 clear h1 h2 h3 hc;go_enter Tryz.func189,Tryz.ntmps189;go_wp2;go_quiet ((first | (go_at_call 134;exact Calls.quiet_of_same (H1.out _)) | (go_at_call 241;(with_reducible exact Calls.quiet_of_same (H2.out _))) | (go_at_call 241;(with_reducible exact Calls.quiet_of_same (H3.out _)))));go_wp2;go_ret;exact ⟨by simp,_,_,rfl⟩
section
open Go.Sort
section
variable {α:Type}
def zW (a b n:Nat) (f:Nat->α) (x:Nat):α:=if a<=x/\x<a+n then f (x+(b - a)) else if b<=x/\x<b+n then f (x - (b - a)) else f x
def lG (a m b:Nat) (f:Nat->α) (x:Nat):α:=if a<=x/\x<a+(b - m) then f (x+(m - a)) else if a+(b - m)<=x/\x<b then f (x - (b - m)) else f x
theorem GK (a b:Nat) (f:Nat->α) (x:Nat):zW a b 0 f x=f x:=by
 unfold zW;rw [if_neg (by omega),if_neg (by omega)]
theorem GJ (a b n:Nat) (f:Nat->α) (h:a+n<b) (x:Nat) :
  (if x=b+n then zW a b n f (a+n) else if x=a+n then zW a b n f (b+n) else zW a b n f x)=zW a b (n+1) f x:=by
 unfold zW;by_cases h1:x=b+n
 ·subst h1;rw [if_pos rfl,if_neg (by omega),if_neg (by omega),if_neg (by omega),if_pos (by omega)];congr 1;omega
 ·rw [if_neg h1];by_cases h2:x=a+n
  ·subst h2;rw [if_pos rfl,if_neg (by omega),if_neg (by omega),if_pos (by omega)];congr 1;omega
  ·rw [if_neg h2];by_cases h3:a<=x/\x<a+n
   ·rw [if_pos h3,if_pos (by omega)]
   ·rw [if_neg h3];by_cases h4:b<=x/\x<b+n
    ·rw [if_pos h4,if_neg (by omega),if_pos (by omega)]
    ·rw [if_neg h4,if_neg (by omega),if_neg (by omega)]
theorem JJ (m i j:Nat) (hi:i<=m) (hj:j<i) (f:Nat->α) (x:Nat):lG (m - (i - j)) m (m+j) (zW (m - i) m j f) x=lG (m - i) m (m+j) f x:=by
 unfold lG zW;repeat' split
 all_goals first | (exfalso;omega) | rfl | (congr 1 <;> omega)
theorem JK (m i j:Nat) (hi:i<=m) (hj:i<j) (f:Nat->α) (x:Nat):lG (m - i) m (m+(j - i)) (zW (m - i) (m+j - i) i f) x=lG (m - i) m (m+j) f x:=by
 unfold lG zW;repeat' split
 all_goals first | (exfalso;omega) | rfl | (congr 1 <;> omega)
theorem JI (m i:Nat) (hi:i<=m) (f:Nat->α) (x:Nat):zW (m - i) m i f x=lG (m - i) m (m+i) f x:=by
 unfold lG zW;repeat' split
 all_goals first | (exfalso;omega) | rfl | (congr 1 <;> omega)
theorem JL (a k:Nat) (h:a<=k) (f:Nat->α) (x:Nat) :
  (if x=k+1 then lG a (a+1) (k+1) f k else if x=k then lG a (a+1) (k+1) f (k+1) else lG a (a+1) (k+1) f x)=lG a (a+1) (k+2) f x:=by
 unfold lG;repeat' split
 all_goals first | (exfalso;omega) | rfl | (congr 1 <;> omega)
theorem Gw (k m:Nat) (h:k+1<=m) (f:Nat->α) (x:Nat) :
  (if x=k then lG (k+1) m (m+1) f (k+1) else if x=k+1 then lG (k+1) m (m+1) f k else lG (k+1) m (m+1) f x)=lG k m (m+1) f x:=by
 unfold lG;repeat' split
 all_goals first | (exfalso;omega) | rfl | (congr 1 <;> omega)
theorem Gx (a b:Nat) (f:Nat->α) (x:Nat):lG a a b f x=f x:=by
 unfold lG;repeat' split
 all_goals first | (exfalso;omega) | rfl | (congr 1 <;> omega)
theorem vY (a b:Nat) (f:Nat->α) (x:Nat):lG a b b f x=f x:=by
 unfold lG;repeat' split
 all_goals first | (exfalso;omega) | rfl | (congr 1 <;> omega)
end
section
variable {α:Type} [Inhabited α] {lt:α->α->Bool}
def uS (d:Array α) (x:Nat):α:=d[x]!
def rf (a m b:Nat) (d d':Array α):Prop:=PermIn a b d d'/\∀ x,d'[x]! = lG a m b (uS d) x
def Ew (a b n:Nat) (d d':Array α):Prop:=PermIn a (b+n) d d'/\∀ x,d'[x]! = zW a b n (uS d) x
theorem Ew.start (a b:Nat) (d:Array α):Ew a b 0 d d:=⟨permIn_refl _ _ _,fun x=>(GK a b (uS d) x).symm⟩
theorem Ew.step {a b n:Nat} {d d':Array α} (h:Ew a b n d d') (h1:a+n<b) (h2:b+n<d.size):Ew a b (n+1) d (swp d' (a+n) (b+n)):=by
 have hs:d'.size=d.size:=h.1.1;refine ⟨permIn_trans _ _ _ _ _ (permIn_mono _ _ _ _ _ _ (Nat.le_refl _) (by omega) (by omega) h.1) (swp_permIn _ _ _ _ _ (by omega) (by omega) (by omega) (by omega) (by omega)),fun x=>?_⟩;rw [Go.Sort.swp_get d' (by omega) (by omega),<-GJ a b n (uS d) h1 x,h.2,h.2,h.2]
def om (a m b:Nat) (d:Array α) (i j:Nat) (dk:Array α):Prop:=PermIn a b d dk/\(∀ x,lG (m - i) m (m+j) (uS dk) x=lG a m b (uS d) x)/\a<=m - i/\i<=m/\m+j<=b
theorem om.start {a m b:Nat} (d:Array α) (h1:a<=m) (h2:m<=b):om a m b d (m - a) (b - m) d :=
 ⟨permIn_refl _ _ _,fun x=>by rw [show m - (m - a)=a by omega,show m+(b - m)=b by omega],by omega,by omega,by omega⟩
theorem om.right {a m b i j:Nat} {d dk dn:Array α} (h:om a m b d i j dk) (hb:b<=d.size) (hj:j<i) (hs:Ew (m - i) m j dk dn):om a m b d (i - j) j dn:=by
 obtain ⟨h1,h2,h3,h4,h5⟩:=h;refine ⟨permIn_trans _ _ _ _ _ h1 (permIn_mono _ _ _ _ _ _ h3 h5 (by rw [h1.1];exact hb) hs.1),fun x=>?_,by omega,by omega,h5⟩;rw [<-h2,<-JJ m i j h4 hj (uS dk) x];have e:uS dn=zW (m - i) m j (uS dk):=funext hs.2;rw [e]
theorem om.left {a m b i j:Nat} {d dk dn:Array α} (h:om a m b d i j dk) (hb:b<=d.size) (hj:i<j) (hs:Ew (m - i) (m+j - i) i dk dn):om a m b d i (j - i) dn:=by
 obtain ⟨h1,h2,h3,h4,h5⟩:=h;refine ⟨permIn_trans _ _ _ _ _ h1 (permIn_mono _ _ _ _ _ _ h3 (by omega) (by rw [h1.1];exact hb) hs.1),fun x=>?_,h3,h4,by omega⟩;rw [<-h2,<-JK m i j h4 hj (uS dk) x];have e:uS dn=zW (m - i) (m+j - i) i (uS dk):=funext hs.2;rw [e]
theorem om.done {a m b i:Nat} {d dk dn:Array α} (h:om a m b d i i dk) (hb:b<=d.size) (hs:Ew (m - i) m i dk dn):rf a m b d dn:=by
 obtain ⟨h1,h2,h3,h4,h5⟩:=h;refine ⟨permIn_trans _ _ _ _ _ h1 (permIn_mono _ _ _ _ _ _ h3 h5 (by rw [h1.1];exact hb) hs.1),fun x=>?_⟩;rw [<-h2,<-JI m i h4 (uS dk) x];exact hs.2 x
theorem rf.one (a:Nat) (d:Array α):rf a (a+1) (a+1) d d:=⟨permIn_refl _ _ _,fun x=>(vY a (a+1) (uS d) x).symm⟩
theorem rf.up {a k:Nat} {d d':Array α} (h:rf a (a+1) (k+1) d d') (hk:a<=k) (hb:k+1<d.size):rf a (a+1) (k+2) d (swp d' k (k+1)):=by
 have hs:d'.size=d.size:=h.1.1;refine ⟨permIn_trans _ _ _ _ _ (permIn_mono _ _ _ _ _ _ (Nat.le_refl _) (by omega) (by omega) h.1) (swp_permIn _ _ _ _ _ (by omega) (by omega) (by omega) (by omega) (by omega)),fun x=>?_⟩;rw [Go.Sort.swp_get d' (by omega) (by omega),<-JL a k hk (uS d) x,h.2,h.2,h.2]
theorem rf.none (m b:Nat) (d:Array α):rf m m b d d:=⟨permIn_refl _ _ _,fun x=>(Gx m b (uS d) x).symm⟩
theorem rf.down {k m:Nat} {d d':Array α} (h:rf (k+1) m (m+1) d d') (hk:k+1<=m) (hb:m<d.size):rf k m (m+1) d (swp d' (k+1) k):=by
 have hs:d'.size=d.size:=h.1.1;refine ⟨permIn_trans _ _ _ _ _ (permIn_mono _ _ _ _ _ _ (by omega) (Nat.le_refl _) (by omega) h.1) (swp_permIn _ _ _ _ _ (by omega) (by omega) (by omega) (by omega) (by omega)),fun x=>?_⟩;rw [Go.Sort.swp_get d' (by omega) (by omega),<-Gw k m hk (uS d) x,h.2,h.2,h.2]
def rW (lt:α->α->Bool) (a b:Nat) (d d':Array α):Prop:=PermIn a b d d'/\SortedIn lt a b d'
omit [Inhabited α] in
theorem kW (hS:SWO lt) {x y z:α} (h1:lt y x=false) (h2:lt z y=false):lt z x=false:=hS.ntrans z y x h2 h1
theorem i' (hS:SWO lt) {a b:Nat} {d:Array α} (h:SortedIn lt a b d) {i j:Nat} (hi:a<=i) (ag:i<=j) (hj:j<b):lt d[j]! d[i]! = false:=by
 by_cases e:i=j
 ·subst e;exact hS.irrefl _
 ·exact h i j hi (by omega) hj
theorem FC (hS:SWO lt) {a i b:Nat} {d d':Array α} (hR:rf a (a+1) i d d') (hi:a+1<=i) (ag:i<=b) (ah:b<=d.size) (hs:SortedIn lt (a+1) b d) (h1:∀ x,a+1<=x->x<i->lt d[x]! d[a]! = true) (h2:∀ x,i<=x->x<b->lt d[x]! d[a]! = false):rW lt a b d d':=by
 refine ⟨permIn_mono _ _ _ _ _ _ (Nat.le_refl _) ag ah hR.1,fun p q hp ai hq=>?_⟩;rw [hR.2,hR.2];unfold lG uS;by_cases c1:q<i - 1
 ·rw [if_pos (by omega),if_pos (by omega)];exact i' hS hs (by omega) (by omega) (by omega)
 ·by_cases c2:q=i - 1
  ·rw [if_neg (by omega),if_pos (by omega),if_pos (by omega)];have e:q - (i - (a+1))=a:=by omega
   rw [e];exact hS.asymm (h1 _ (by omega) (by omega))
  ·by_cases c3:p<i - 1
   ·rw [if_neg (by omega),if_neg (by omega),if_pos (by omega)];exact i' hS hs (by omega) (by omega) (by omega)
   ·by_cases c4:p=i - 1
    ·rw [if_neg (by omega),if_neg (by omega),if_neg (by omega),if_pos (by omega)];rw [show p - (i - (a+1))=a by omega];exact h2 q (by omega) hq
    ·rw [if_neg (by omega),if_neg (by omega),if_neg (by omega),if_neg (by omega)];exact i' hS hs (by omega) (by omega) (by omega)
theorem Dv (hS:SWO lt) {a i m:Nat} {d d':Array α} (hR:rf i m (m+1) d d') (hi:a<=i) (ah:i<=m) (ag:m+1<=d.size) (hs:SortedIn lt a m d) (h1:∀ x,a<=x->x<i->lt d[m]! d[x]! = false) (h2:∀ x,i<=x->x<m->lt d[m]! d[x]! = true):rW lt a (m+1) d d':=by
 refine ⟨permIn_mono _ _ _ _ _ _ hi (Nat.le_refl _) ag hR.1,fun p q hp ai hq=>?_⟩;rw [hR.2,hR.2];unfold lG uS;by_cases c1:q<i
 ·rw [if_neg (by omega),if_neg (by omega),if_neg (by omega),if_neg (by omega)];exact i' hS hs (by omega) (by omega) (by omega)
 ·by_cases c2:q=i
  ·rw [if_pos (by omega),if_neg (by omega),if_neg (by omega)];rw [show q+(m - i)=m by omega];exact h1 p hp (by omega)
  ·by_cases c3:p<i
   ·rw [if_neg (by omega),if_pos (by omega),if_neg (by omega),if_neg (by omega)];exact i' hS hs (by omega) (by omega) (by omega)
   ·by_cases c4:p=i
    ·rw [if_neg (by omega),if_pos (by omega),if_pos (by omega)];rw [show p+(m - i)=m by omega];exact hS.asymm (h2 _ (by omega) (by omega))
    ·rw [if_neg (by omega),if_pos (by omega),if_neg (by omega),if_pos (by omega)];exact i' hS hs (by omega) (by omega) (by omega)
structure Ex (lt:α->α->Bool) (a m b mid s:Nat) (d:Array α):Prop where
 h1:a<=s
 h2:s<=m
 h3:s<=mid
 h4:m<=mid+m - s
 h5:mid+m - s<=b
 low:(mid<m/\s=mid+m - b)\/(m<=mid/\s=a)\/(a<s/\mid+m - s<b/\lt d[mid+m - s]! d[s - 1]! = false)
 high:(mid<m/\s=mid)\/(m<=mid/\s=m)\/(s<m/\m<mid+m - s/\lt d[mid+m - s - 1]! d[s]! = true)
theorem Du (hS:SWO lt) {a m b mid s:Nat} {d d1 d2 d3:Array α} (aq:a<m) (ar:m<b) (am:mid=(a+b) / 2) (hb:b<=d.size) (hl:SortedIn lt a m d) (hr:SortedIn lt m b d) (hc:Ex lt a m b mid s d)
  (hR:rf s m (mid+m - s) d d1) (h2:rW lt a mid d1 d2) (h3:rW lt mid b d2 d3):rW lt a b d d3:=by
 obtain ⟨c1,c2,c3,c4,c5,cl,ch⟩:=hc;have ap:d1.size=d.size:=hR.1.1;have aw:d2.size=d.size:=h2.1.1.trans ap;have p1:PermIn a b d d1:=permIn_mono _ _ _ _ _ _ c1 c5 hb hR.1;have p2:PermIn a b d1 d2:=permIn_mono _ _ _ _ _ _ (Nat.le_refl _) (by omega) (by omega) h2.1;have p3:PermIn a b d2 d3:=permIn_mono _ _ _ _ _ _ (by omega) (Nat.le_refl _) (by omega) h3.1;refine ⟨permIn_trans _ _ _ _ _ (permIn_trans _ _ _ _ _ p1 p2) p3,fun p q hp al hq=>?_⟩
 have cross1:∀ i j,a<=i->i<mid->mid<=j->j<b->lt d1[j]! d1[i]! = false:=by
  intro i j ag ai aj ah;rw [hR.2,hR.2];unfold lG uS;have ll:∀ i j,a<=i->i<s->s<=j->j<m->lt d[j]! d[i]! = false:=fun i j h1 h2 h3 h4=>i' hS hl h1 (by omega) h4
  have rr:∀ i j,m<=i->i<mid+m - s->mid+m - s<=j->j<b->lt d[j]! d[i]! = false:=fun i j h1 h2 h3 h4=>i' hS hr h1 (by omega) h4
  have lr:∀ i j,a<=i->i<s->mid+m - s<=j->j<b->lt d[j]! d[i]! = false:=by
   intro i j h1 h2 h3 h4;rcases cl with cl | cl | cl
   ·omega
   ·omega
   ·exact kW hS (kW hS (i' hS hl h1 (show i<=s - 1 by omega) (by omega)) cl.2.2) (i' hS hr (by omega) h3 h4)
  have rl:∀ i j,m<=i->i<mid+m - s->s<=j->j<m->lt d[j]! d[i]! = false:=by
   intro i j h1 h2 h3 h4;rcases ch with ch | ch | ch
   ·omega
   ·omega
   ·exact kW hS (kW hS (i' hS hr h1 (show i<=mid+m - s - 1 by omega) (by omega)) (hS.asymm ch.2.2)) (i' hS hl (by omega) h3 h4)
  by_cases k1:i<s
  ·have ei:(if s<=i/\i<s+(mid+m - s - m) then d[i+(m - s)]! else if s+(mid+m - s - m)<=i/\i<mid+m - s then d[i - (mid+m - s - m)]! else d[i]!)=d[i]!:=by rw [if_neg (by omega),if_neg (by omega)]
   rw [ei];by_cases k2:j<mid+m - s
   ·rw [if_neg (by omega),if_pos (by omega)];exact ll _ _ ag k1 (by omega) (by omega)
   ·rw [if_neg (by omega),if_neg (by omega)];exact lr _ _ ag k1 (by omega) ah
  ·have ei:(if s<=i/\i<s+(mid+m - s - m) then d[i+(m - s)]! else if s+(mid+m - s - m)<=i/\i<mid+m - s then d[i - (mid+m - s - m)]! else d[i]!)=d[i+(m - s)]!:=by rw [if_pos (by omega)]
   rw [ei];by_cases k2:j<mid+m - s
   ·rw [if_neg (by omega),if_pos (by omega)];exact rl _ _ (by omega) (by omega) (by omega) (by omega)
   ·rw [if_neg (by omega),if_neg (by omega)];exact rr _ _ (by omega) (by omega) (by omega) ah
 have cross2:∀ i j,a<=i->i<mid->mid<=j->j<b->lt d2[j]! d2[i]! = false:=by
  intro i j ag ai aj ah;rw [h2.1.2.1 j (by omega)];exact permIn_all d1 d2 a mid (fun x=>lt d1[j]! x=false) (by omega) h2.1 (fun i h1 h2=>cross1 i j h1 h2 aj ah) i ag ai
 have cross3:∀ i j,a<=i->i<mid->mid<=j->j<b->lt d3[j]! d3[i]! = false:=by
  intro i j ag ai aj ah;rw [h3.1.2.1 i (by omega)];exact permIn_all d2 d3 mid b (fun x=>lt x d2[i]! = false) (by omega) h3.1 (fun j h1 h2=>cross2 i j ag ai h1 h2) j aj ah
 by_cases k1:q<mid
 ·have s3:∀ x,x<mid->d3[x]! = d2[x]!:=fun x hx=>h3.1.2.1 x (by omega)
  rw [s3 q k1,s3 p (by omega)];exact h2.2 p q hp al k1
 ·by_cases k2:p<mid
  ·exact cross3 p q hp k2 (by omega) hq
  ·exact h3.2 p q (by omega) al hq
end
end
end Go.Proofs.YtofibjflkebkpaaGreatDoor
