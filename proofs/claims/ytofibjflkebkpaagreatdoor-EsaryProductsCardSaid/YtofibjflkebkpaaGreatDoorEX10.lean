import Derived.WalkKit
import Derived.WalkSpells
import Derived.WalkLawsBesides
import Derived.Deep.QuietTactic
import Derived.BigQuiet
import Derived.Lib.Hide
import Derived.Shelf.Abstract
import Derived.Deep.RegionWith
import Derived.Laws.AppendOwnNone
import Derived.Lib.AppendZerosOnto
import Derived.Lib.SliceRun
import Derived.Lib.SlicesCompact
import Derived.Shelf.SlSortCmp.NoneTotal
import Derived.Maps.OwnOps
import Derived.Maps.OwnSet
import Derived.Maps.Views
import Derived.Deep.MidRow
import Derived.Deep.RegionHeld3
import Derived.Deep.AppendLies
import Derived.Deep.RegionLaw
import Derived.IntWalk
import Derived.StillTailTactics
import Derived.RegionTactic
import Derived.BigRegion
import Derived.ChangeAlike
import Derived.Sort.LotD2
import Derived.Sort.LotA
import Derived.Shelf.SlSortCmp.PdqK
import Derived.Deep.DeepCutAuto
import Derived.Lib.ItoaNum
import Derived.Deep.LoopGhost
import Derived.ProofKit
import Derived.OpenShut
import Derived.SizedLaws
import Derived.Lib.SmallJoins
import Derived.Deep.Slices
import Derived.Deep.Fields
import Derived.Deep.Strs
import Derived.Carry
import Derived.Lib.BitFns
import Derived.Deep.CutBlock
import Derived.Laws.IdiomStrings
import Derived.Test.YtofibjflkebkpaaGreatDoorEX9
import Derived.Test.YtofibjflkebkpaaGreatDoorEX2
import Derived.Test.YtofibjflkebkpaaGreatDoorEX4
import Derived.Test.YtofibjflkebkpaaGreatDoorEX7
import Derived.Test.YtofibjflkebkpaaGreatDoorEX8
import Derived.Test.YtofibjflkebkpaaGreatDoorEX3
import Derived.Test.YtofibjflkebkpaaGreatDoorEX1
set_option maxRecDepth 100000
set_option maxHeartbeats 16000000
namespace Go.Proofs.YtofibjflkebkpaaGreatDoor
open Go.RowKit
def fm (V:Nat) (mark:List Bool):Nat->Nat
 | 0=>0
 | k+1=>fm V mark k+if mark.getD (V+k) false=true then 1 else 0
def nC (V:Nat) (mark:List Bool) (a:Int):Int:=if a<V then a else ((V+fm V mark (a - V).toNat:Nat):Int)
def pw (V:Nat) (mark:List Bool) (x:Nd):Nd:=⟨x.kind,x.k,x.args.map (nC V mark)⟩
def aV (V:Nat) (mark:List Bool) (nodes:List Nd):Nat->List Nd
 | 0=>[]
 | k+1=>if mark.getD (V+k) false=true then aV V mark nodes k++[pw V mark (nodes.getD k bz)] else aV V mark nodes k
theorem gB (V:Nat) (mark:List Bool) (nodes:List Nd):∀ k,(aV V mark nodes k).length=fm V mark k:=by
 intro k;induction k with
 | zero=>rfl
 | succ k ih=>unfold aV fm;split <;> simp [ih]
theorem wT (V:Nat) (mark:List Bool):∀ k,fm V mark k<=k:=by
 intro k;induction k with
 | zero=>exact Nat.le_refl _
 | succ k ih=>unfold fm;split <;> omega
theorem xE (V:Nat) (mark:List Bool) {i:Nat}:∀ k,i<=k->fm V mark i<=fm V mark k:=by
 intro k;induction k with
 | zero=>intro h;rw [show i=0 by omega];exact Nat.le_refl _
 | succ k ih =>
  intro h;by_cases e:i=k+1
  ·rw [e];exact Nat.le_refl _
  ·have:=ih (by omega);rw [fm];omega
theorem wU (V:Nat) (mark:List Bool) {i k:Nat} (h:i<k) (hm:mark.getD (V+i) false=true):fm V mark i<fm V mark k:=by
 have h1:=xE V mark (i:=i+1) k h;rw [fm,if_pos hm] at h1;omega
def kh (V:Nat) (mark:List Bool) (out:List (List Nat)):Nat->List (List Nat)
 | 0=>[]
 | k+1=>if mark.getD (V+k) false=true then kh V mark out k++[out.getD k []] else kh V mark out k
theorem qC (V:Nat) (mark:List Bool) (out:List (List Nat)) (k:Nat):kh V mark out (k+1)=if mark.getD (V+k) false=true then kh V mark out k++[out.getD k []] else kh V mark out k:=rfl
theorem oH (V:Nat) (mark:List Bool) (out:List (List Nat)):∀ k,(kh V mark out k).length=fm V mark k:=by
 intro k;induction k with
 | zero=>rfl
 | succ k ih=>unfold kh fm;split <;> simp [ih]
theorem tb {V:Nat} {mark:List Bool} {out:List (List Nat)} {i:Nat} (hm:mark.getD (V+i) false=true):∀ k,i<k->(kh V mark out k).getD (fm V mark i) []=out.getD i []:=by
 intro k;induction k with
 | zero=>intro h;omega
 | succ k ih =>
  intro h;by_cases e:i=k
  ·subst e;unfold kh;rw [if_pos hm,List.getD_eq_getElem?_getD,List.getElem?_append_right (by rw [oH];exact Nat.le_refl _),oH,Nat.sub_self];rfl
  ·have h1:=ih (by omega);unfold kh;split
   ·rw [List.getD_eq_getElem?_getD,List.getElem?_append_left (by rw [oH];exact wU V mark (by omega) hm),<-List.getD_eq_getElem?_getD];exact h1
   ·exact h1
theorem AZ {V:Nat} {mark:List Bool} {out:List (List Nat)} {j:Nat} {l:List Nat}:∀ k,k<=j->kh V mark (out.set j l) k=kh V mark out k:=by
 intro k;induction k with
 | zero=>intro _;rfl
 | succ k ih =>
  intro h;unfold kh;rw [ih (by omega)];split
  ·rw [List.getD_eq_getElem?_getD,List.getElem?_set_ne (by omega),<-List.getD_eq_getElem?_getD]
  ·rfl
def bw (V:Nat):List (List Nat):=(List.range V).map fun i=>[2^i]
theorem nE {V i:Nat} (h:i<V) (t:List (List Nat)):(bw V++t).getD i []=[2^i]:=by
 rw [List.getD_eq_getElem?_getD,List.getElem?_append_left (by simp [bw];exact h)];simp [bw,h]
theorem kq {V i:Nat} (t:List (List Nat)):(bw V++t).getD (V+i) []=t.getD i []:=by
 rw [List.getD_eq_getElem?_getD,List.getElem?_append_right (by simp [bw]),List.getD_eq_getElem?_getD];simp [bw]
def fh (l:List (List Nat)) (x:Nd):Option (List (List Nat)):=(cz x.kind x.k (x.args.map fun a=>l.getD a.toNat [])).map fun r=>l++[r]
def fG (V:Nat) (nodes:List Nd):Option (List (List Nat)):=nodes.foldlM fh (bw V)
theorem z' {V:Nat} {mark:List Bool} {out:List (List Nat)} {k:Nat} (args:List Int) (h:∀ a∈args,(0<=a/\a<(V:Int)+k)/\mark.getD a.toNat false=true) :
  (args.map (nC V mark)).map (fun a=>(bw V++kh V mark out k).getD a.toNat [])=args.map (eV V out):=by
 rw [List.map_map];refine List.map_congr_left fun a ha=>?_
 obtain ⟨⟨h0,h1⟩,hm⟩:=h a ha;obtain ⟨A,rfl⟩:=Int.eq_ofNat_of_zero_le h0;simp only [Function.comp,nC,eV,Int.toNat_natCast] at hm⊢;by_cases hAV:A<V
 ·rw [if_pos (by omega),if_pos (by omega),Int.toNat_natCast,nE hAV]
 ·rw [if_neg (by omega),if_neg (by omega),Int.toNat_natCast,kq,show ((A:Int) - (V:Int)).toNat=A - V by omega];exact tb (by rw [show V+(A - V)=A by omega];exact hm) k (by omega)
theorem BN {V:Nat} {mark:List Bool} {nodes:List Nd} (hargs:∀ i (h:i<nodes.length),∀ a∈nodes[i].args,0<=a/\a<(V:Int)+i) (hcl:∀ i (hi:i<nodes.length),mark.getD (V+i) false=true->∀ a∈nodes[i].args,mark.getD a.toNat false=true) :
  ∀ k,k<=nodes.length->fG V (aV V mark nodes k)=(dd V mark nodes k).map fun out=>bw V++kh V mark out k:=by
 intro k;induction k with
 | zero=>intro _;simp [fG,aV,dd,kh]
 | succ k ih =>
  intro hk;have ih:=ih (by omega);have hnd:nodes.getD k bz=nodes[k]:=by simp [List.getD_eq_getElem?_getD,show k<nodes.length by omega]
  unfold aV;by_cases hm:mark.getD (V+k) false=true
  ·rw [if_pos hm];unfold fG at ih⊢;rw [List.foldlM_append,ih];show _=((dd V mark nodes k).bind fun out=>dL V mark nodes out k).map _;cases h1:dd V mark nodes k with
   | none=>rfl
   | some out =>
    have hol:=jm V mark nodes k out h1;simp only [Option.map_some,Option.bind_some,Option.bind_eq_bind,List.foldlM_cons,List.foldlM_nil];unfold fh dL;rw [if_pos hm,hnd];simp only [pw];rw [z' _ (fun a ha=>⟨hargs k (by omega) a ha,hcl k (by omega) hm a ha⟩)];cases h2:cz nodes[k].kind nodes[k].k (nodes[k].args.map (eV V out)) with
    | none=>rfl
    | some l =>
     simp only [Option.map_some,Option.bind_some];rw [qC,if_pos hm,AZ k (Nat.le_refl _),List.getD_eq_getElem?_getD,List.getElem?_set_self (by omega)];simp [List.append_assoc]
  ·rw [if_neg hm,ih];show _=((dd V mark nodes k).bind fun out=>dL V mark nodes out k).map _;cases h1:dd V mark nodes k with
   | none=>rfl
   | some out =>
    simp only [Option.map_some,Option.bind_some];unfold dL;rw [if_neg hm];simp only [Option.map_some];rw [qC,if_neg hm]
def rH (t:List (List Nat)) (arg:List Nat) (i:Nat):Option (List Nat):=(aM (t.getD i []) arg).bind (bK (t.getD (i+1) []))
theorem Bc {arg:List Nat}:∀ {t r:List (List Nat)} {p:List Nat},r.length=t.length->(∀ i,i<t.length->rH (p :: t) arg i=some (r.getD i []))->km arg p t=some r:=by
 intro t;induction t with
 | nil=>intro r p hl _;rw [List.eq_nil_of_length_eq_zero hl];rfl
 | cons q t ih =>
  intro r p hl h;cases r with
  | nil=>cases hl
  | cons y r =>
   have h0:=h 0 (by simp);obtain ⟨x,hx,hy⟩:=Option.bind_eq_some_iff.1 h0;have h1:=ih (r:=r) (p:=q) (by simpa using hl) fun i hi=>h (i+1) (by simpa using hi)
   simp only [List.getD_cons_zero,List.getD_cons_succ] at hx hy;unfold km;rw [hx];simp only [Option.bind_some];rw [hy];simp only [Option.bind_some];rw [h1];rfl
theorem u' {arg:List Nat}:∀ {t:List (List Nat)} {p:List Nat} {i:Nat},i<t.length->rH (p :: t) arg i=none->km arg p t=none:=by
 intro t;induction t with
 | nil=>intro p i h;cases h
 | cons q t ih =>
  intro p i hi h;unfold km;cases hx:aM p arg with
  | none=>rfl
  | some x =>
   simp only [Option.bind_some];cases hy:bK q x with
   | none=>rfl
   | some y =>
    simp only [Option.bind_some];cases i with
    | zero =>
     unfold rH at h;simp only [List.getD_cons_zero,List.getD_cons_succ] at h;rw [hx] at h;simp only [Option.bind_some] at h;rw [hy] at h;cases h
    | succ i =>
     have h1:km arg q t=none:=ih (i:=i) (by simpa using hi) h;rw [h1];rfl
theorem yD {arg:List Nat} {t r:List (List Nat)} (hl:r.length=t.length) (h0:0<t.length) (hz:r.getD 0 []=t.getD 0 []) (h:∀ i,i+1<t.length->rH t arg i=some (r.getD (i+1) [])):eh t arg=some r:=by
 cases t with
 | nil=>cases h0
 | cons p t =>
  cases r with
  | nil=>cases hl
  | cons y r =>
   have e:y=p:=hz;subst e;unfold eh;simp only [];rw [Bc (r:=r) (by simpa using hl) fun i hi=>h i (by simpa using hi)];rfl
theorem nx {arg:List Nat} {t:List (List Nat)} {i:Nat} (hi:i+1<t.length) (h:rH t arg i=none):eh t arg=none:=by
 cases t with
 | nil=>cases hi
 | cons p t =>
  unfold eh;simp only [];rw [u' (i:=i) (by simpa using hi) h];rfl
theorem u_ {t:List (List Nat)} {args:List (List Nat)} {k:Nat} (hk:k<args.length):gj t (args.take (k+1))=(gj t (args.take k)).bind fun r=>eh r args[k]:=by
 unfold gj;rw [List.take_succ_eq_append_getElem hk,List.foldlM_append];simp [Option.bind_eq_bind]
theorem pk {t:List (List Nat)} {args:List (List Nat)} {k:Nat} (h:gj t (args.take k)=none):gj t args=none:=by
 unfold gj at *;rw [<-List.take_append_drop k args,List.foldlM_append,h];rfl
theorem CP (v:Value) (args:List (List Nat)) (w:World) (hv:eP w v args):Calls Tryz.prog 137 #[v] w fun e w'=>dj w' w.heap.size e (bO aM [0] args)/\ag w w':=by
 obtain ⟨a,c,rfl,_,hl,hx⟩:=hv;obtain ⟨n,hn⟩:∃ n,n=args.length:=⟨_,rfl⟩;rw [<-hn] at hl⊢;obtain ⟨r,hr⟩:∃ r,r=bO aM [0] args:=⟨_,rfl⟩;rw [<-hr];have HR:=af hr;have HX:=af hx;have HN:=af hn;have HOP:Hid (∀ (x y:List Nat) (vx vy:Value) (W:World),aH W vx x->aH W vy y->Calls Tryz.prog 204 #[vx,vy] W fun e w'=>dj w' W.heap.size e (aM x y)/\ag W w'):=af fun x y vx vy W h1 h2=>nu x y vx vy W h1 h2
 clear hx hn hr;go_enter Tryz.func137,Tryz.ntmps137;go_wp2_with fail;go_loopg [4,11] n (fun kx out i wr=>∃ (k:Nat) (l:List Nat),k<=n/\i=.int .i64 k/\n - k<=kx/\Hid (bO aM [0] (args.take k)=some l)/\Hid (aF wr w.heap.size out l)/\Hid (ag w wr))
 case atStart=>exact ⟨0,[0],Nat.zero_le _,rfl,by omega,af rfl,af (aF.one w w.heap.size 0 (by simp [Mk]) (Nat.le_refl _)),af ((ag.refl _).alloc _)⟩
 case round =>
  obtain ⟨k,l,hk,rfl,hkx,HL,HO,HK⟩:=hrel;by_cases hlt:k<n
  ·have hkx2:k<args.length:=by have:=HN.out;omega
   have hkn:(k:Int)<(n:Int):=by omega
   obtain ⟨b,o,u,rfl,hc0,hu⟩:=HX.out k hkx2;have hcell:=HK.out.cell hc0;have HC:=af (HOP.out l args[k] u4 u wr HO.out.sets (hu.kept HK.out));have hstep:=oy aM [0] args k hkx2;rw [HL.out] at hstep;simp only [Option.bind_some] at hstep;have HS:=af hstep;have HZ:=af HK.out.size;clear hc0 hu hstep;obtain ⟨q,hq⟩:∃ q,q=aM l args[k]:=⟨_,rfl⟩;rw [<-hq] at HC HS;cases q with
   | none =>
    have HRN:Hid (r=none):=af (by rw [HR.out];exact ox aM [0] args (k+1) HS.out);clear hq;go_wp2_with fail;refine HC.out.mono ?_;rintro e w2 ⟨he,hk2⟩;unfold dj at he;subst he;have HK2:=af (HK.out.trans hk2);clear hk2;rw [aN (show (4:Nat)≠0 by decide)];go_wp2;go_ret2;exact ⟨by rw [HRN.out];rfl,HK2.out⟩
   | some l2 =>
    clear hq;go_wp2_with fail;refine HC.out.mono ?_;rintro e w2 ⟨⟨v2,rfl,ho2⟩,hk2⟩;have O2:=af (ho2.mono HZ.out);have HK2:=af (HK.out.trans hk2);clear ho2 hk2;go_wp2_with fail;go_roundg (n - (k+1))
    case measure=>omega
    case rel=>exact ⟨k+1,l2,by omega,by go_num,Nat.le_refl _,HS,O2,HK2⟩
  ·have hkn:¬ (k:Int)<(n:Int):=by omega
   have h1:=HL.out;rw [List.take_of_length_le (by have:=HN.out;omega),<-HR.out] at h1;have H1:=af h1;clear h1;go_wp2;go_ret2;exact ⟨by rw [H1.out];exact ⟨_,rfl,HO.out⟩,HK.out⟩
theorem AP (v:Value) (args:List (List Nat)) (w:World) (hv:eP w v args):Calls Tryz.prog 138 #[v] w fun e w'=>dj w' w.heap.size e (bO bK [] args)/\ag w w':=by
 obtain ⟨a,c,rfl,_,hl,hx⟩:=hv;obtain ⟨n,hn⟩:∃ n,n=args.length:=⟨_,rfl⟩;rw [<-hn] at hl⊢;obtain ⟨r,hr⟩:∃ r,r=bO bK [] args:=⟨_,rfl⟩;rw [<-hr];have HR:=af hr;have HX:=af hx;have HN:=af hn;have HOP:Hid (∀ (x y:List Nat) (vx vy:Value) (W:World),aH W vx x->aH W vy y->Calls Tryz.prog 205 #[vx,vy] W fun e w'=>dj w' W.heap.size e (bK x y)/\ag W w'):=af fun x y vx vy W h1 h2=>td x y vx vy W h1 h2
 clear hx hn hr;go_enter Tryz.func138,Tryz.ntmps138;go_wp2_with fail;go_loopg [4,10] n (fun kx out i wr=>∃ (k:Nat) (l:List Nat),k<=n/\i=.int .i64 k/\n - k<=kx/\Hid (bO bK [] (args.take k)=some l)/\Hid (aF wr w.heap.size out l)/\Hid (ag w wr))
 case atStart=>exact ⟨0,[],Nat.zero_le _,rfl,by omega,af rfl,af (aF.nils _ _),af (ag.refl _)⟩
 case round =>
  obtain ⟨k,l,hk,rfl,hkx,HL,HO,HK⟩:=hrel;by_cases hlt:k<n
  ·have hkx2:k<args.length:=by have:=HN.out;omega
   have hkn:(k:Int)<(n:Int):=by omega
   obtain ⟨b,o,u,rfl,hc0,hu⟩:=HX.out k hkx2;have hcell:=HK.out.cell hc0;have HC:=af (HOP.out l args[k] u4 u wr HO.out.sets (hu.kept HK.out));have hstep:=oy bK [] args k hkx2;rw [HL.out] at hstep;simp only [Option.bind_some] at hstep;have HS:=af hstep;have HZ:=af HK.out.size;clear hc0 hu hstep;obtain ⟨q,hq⟩:∃ q,q=bK l args[k]:=⟨_,rfl⟩;rw [<-hq] at HC HS;cases q with
   | none =>
    have HRN:Hid (r=none):=af (by rw [HR.out];exact ox bK [] args (k+1) HS.out);clear hq;go_wp2_with fail;refine HC.out.mono ?_;rintro e w2 ⟨he,hk2⟩;unfold dj at he;subst he;have HK2:=af (HK.out.trans hk2);clear hk2;rw [aN (show (4:Nat)≠0 by decide)];go_wp2;go_ret2;exact ⟨by rw [HRN.out];rfl,HK2.out⟩
   | some l2 =>
    clear hq;go_wp2_with fail;refine HC.out.mono ?_;rintro e w2 ⟨⟨v2,rfl,ho2⟩,hk2⟩;have O2:=af (ho2.mono HZ.out);have HK2:=af (HK.out.trans hk2);clear ho2 hk2;go_wp2_with fail;go_roundg (n - (k+1))
    case measure=>omega
    case rel=>exact ⟨k+1,l2,by omega,by go_num,Nat.le_refl _,HS,O2,HK2⟩
  ·have hkn:¬ (k:Int)<(n:Int):=by omega
   have h1:=HL.out;rw [List.take_of_length_le (by have:=HN.out;omega),<-HR.out] at h1;have H1:=af h1;clear h1;go_wp2;go_ret2;exact ⟨by rw [H1.out];exact ⟨_,rfl,HO.out⟩,HK.out⟩
theorem OwnFams.len {w:World} {B g n c:Nat} {xss:List (List Nat)} (h:OwnFams w B (.slice (some ⟨g,0,none⟩) n c) xss):n=xss.length:=by
 obtain ⟨us,h1,⟨h2,h3⟩,_⟩:=h;rcases h3 with ⟨h3,_⟩ | ⟨g',cap',cur,h3,_⟩
 ·cases h3
 ·cases h3;rfl
def qU (t t':List (List Nat)) (arg:List Nat) (j:Nat):Prop :=
 t'.length=t.length/\(∀ i,i<=j->t'.getD i []=t.getD i [])/\∀ i,j<=i->i+1<t.length->rH t arg i=some (t'.getD (i+1) [])
theorem qU.start (t:List (List Nat)) (arg:List Nat) {m:Nat} (h:t.length=m+1):qU t t arg m:=⟨rfl,fun _ _=>rfl,fun i h1 h2=>by omega⟩
theorem qU.step {t t':List (List Nat)} {arg l:List Nat} {j:Nat} (h:qU t t' arg (j+1)) (hj:j+1<t.length) (hl:rH t arg j=some l):qU t (t'.set (j+1) l) arg j:=by
 obtain ⟨h1,h2,h3⟩:=h;refine ⟨by rw [List.length_set];exact h1,fun i hi=>?_,fun i hi hi2=>?_⟩
 ·rw [List.getD_eq_getElem?_getD,List.getElem?_set_ne (by omega),<-List.getD_eq_getElem?_getD];exact h2 i (by omega)
 ·by_cases e:i=j
  ·subst e;rw [hl,List.getD_eq_getElem?_getD,List.getElem?_set_self (by omega)];rfl
  ·rw [List.getD_eq_getElem?_getD,List.getElem?_set_ne (by omega),<-List.getD_eq_getElem?_getD];exact h3 i (by omega) hi2
theorem qU.done {t t':List (List Nat)} {arg:List Nat} (h:qU t t' arg 0) (h0:0<t.length):eh t arg=some t' :=
 yD h.1 h0 (h.2.1 0 (Nat.le_refl _)) fun i hi=>h.2.2 i (Nat.zero_le _) hi
theorem yE (v:Value) (args:List (List Nat)) (m:Nat) (w:World) (hv:eP w v args) (hm1:1<=m) (hm2:m<=1000) :
  Calls Tryz.prog 139 #[v,.int .i64 m] w fun e w'=>dj w' 0 e (ff args m)/\ag w w':=by
 obtain ⟨a,c,rfl,_,hl,hx⟩:=hv;obtain ⟨n,hn⟩:∃ n,n=args.length:=⟨_,rfl⟩;rw [<-hn] at hl⊢;obtain ⟨r,hr⟩:∃ r,r=ff args m:=⟨_,rfl⟩;rw [<-hr];have HR:=af hr;have HX:=af hx;have HN:=af hn;have HPr:Hid (∀ (x y:List Nat) (vx vy:Value) (W:World),aH W vx x->aH W vy y->Calls Tryz.prog 204 #[vx,vy] W fun e w'=>dj w' W.heap.size e (aM x y)/\ag W w'):=af fun x y vx vy W h1 h2=>nu x y vx vy W h1 h2
 have HPl:Hid (∀ (x y:List Nat) (vx vy:Value) (W:World),aH W vx x->aH W vy y->Calls Tryz.prog 205 #[vx,vy] W fun e w'=>dj w' W.heap.size e (bK x y)/\ag W w'):=af fun x y vx vy W h1 h2=>td x y vx vy W h1 h2
 clear hx hn hr;go_enter Tryz.func139,Tryz.ntmps139;go_wp2_with (at_make;refine As rfl _ _ rfl (m+1) (by show Value.int .i64 ((m:Int)+1)=.int .i64 ((m+1:Nat):Int);rw [Int.natCast_add];rfl) (by show Value.int .i64 ((m:Int)+1)=.int .i64 ((m+1:Nat):Int);rw [Int.natCast_add];rfl) (by omega) ?_;intro w1 ho1 hk1' hz1;obtain ⟨u0,hc0,_⟩:=ho1.cell 0 (by simp);have hf0:=ho1.free 0;have hz1n:¬ w1.heap.size=w.heap.size:=(by omega);have O1:=af ho1;clear ho1);have hko:ag w ((w1.setCell ⟨w.heap.size,0,none⟩ (.slice (some ⟨w1.heap.size,0,none⟩) 1 1)).alloc (.cells #[.int .i64 0] 3)):=((hk1'.store (Nat.le_refl _) _ _).alloc _)
 have ht0:OwnFams ((w1.setCell ⟨w.heap.size,0,none⟩ (.slice (some ⟨w1.heap.size,0,none⟩) 1 1)).alloc (.cells #[.int .i64 0] 3)) w.heap.size (.slice (some ⟨w.heap.size,0,none⟩) (m+1) (m+1)) ([0] :: List.replicate m []):=by
  have h1:=(O1.out.kept ((ag.refl _).alloc (.cells #[.int .i64 0] 3))).store (by simp) 0 (aF.one w1 0 0 (by unfold Mk;omega) (Nat.zero_le _));rw [List.replicate_succ] at h1;rw [<-World.setCell_alloc_past _ _ _ _ hz1];exact h1
 have HT0:=af ht0;have HKO:=af hko;clear ht0 hko hc0 hf0 hk1';go_loopg [20] n (fun kx i wr=>∃ (q:Nat) (t:List (List Nat)),q<=n/\i=.int .i64 q/\n - q<=kx/\Hid (t.length=m+1)/\Hid (OwnFams wr w.heap.size (.slice (some ⟨w.heap.size,0,none⟩) (m+1) (m+1)) t)/\Hid (gj ([0] :: List.replicate m []) (args.take q)=some t)/\Hid (ag w wr))
 case atStart=>exact ⟨0,_,Nat.zero_le _,rfl,by omega,af (by simp),HT0,af rfl,HKO⟩
 case round =>
  clear HT0 HKO O1 hz1 hz1n;obtain ⟨q,t,hq,rfl,hqx,HTL,HOT,HG,HK⟩:=hrel;by_cases hlt:q<n
  ·have hqx2:q<args.length:=by have:=HN.out;omega
   have hqn:(q:Int)<(n:Int):=by omega
   obtain ⟨b,o,u,rfl,hc0,hu⟩:=HX.out q hqx2;have hcell:=HK.out.cell hc0;have hstep:=u_ (t:=[0] :: List.replicate m []) hqx2;rw [HG.out] at hstep;simp only [Option.bind_some] at hstep;obtain ⟨arg,harg⟩:∃ x,x=args[q]:=⟨_,rfl⟩;rw [<-harg] at hu hstep;have HU:=af hu;have HST:=af hstep;clear hc0 hu hstep harg;go_wp2_with fail;obtain ⟨wo,rfl⟩:∃ wo:World,wo=wr:=⟨_,rfl⟩;go_loopg [9] m (fun jx s9 wi=>∃ (j:Nat) (t':List (List Nat)),j<=m/\s9=.int .i64 j/\j<=jx/\Hid (qU t t' arg j)/\Hid (OwnFams wi w.heap.size (.slice (some ⟨w.heap.size,0,none⟩) (m+1) (m+1)) t')/\Hid (ag w wi))
   case atStart=>exact ⟨m,t,Nat.le_refl _,rfl,by omega,af (qU.start t arg HTL.out),HOT,HK⟩
   case round =>
    obtain ⟨j,t',hj,rfl,hjx,HV,HOI,HKi⟩:=hrel;by_cases hj0:0<j
    ·obtain ⟨p,rfl⟩:∃ p,j=p+1:=⟨j - 1,by omega⟩;have hjn:(0:Int)<((p+1:Nat):Int):=by omega
     have ep:((p+1:Nat):Int)=(p:Int)+1:=by omega
     rw [ep] at hjn⊢;have hpl:p+1<t.length:=by have:=HTL.out;omega
     have hl':t'.length=t.length:=HV.out.1;have g1:=HV.out.2.1 p (by omega);have g2:=HV.out.2.1 (p+1) (Nat.le_refl _);obtain ⟨up,hcp,hup⟩:=HOI.out.cell p (by omega);obtain ⟨uq,hcq,huq⟩:=HOI.out.cell (p+1) (by omega);have e1:t'[p]'(by omega)=t.getD p []:=by rw [<-g1];simp [List.getD_eq_getElem?_getD,show p<t'.length by omega]
     have e2:t'[p+1]'(by omega)=t.getD (p+1) []:=by rw [<-g2];simp [List.getD_eq_getElem?_getD,show p+1<t'.length by omega]
     rw [e1] at hup;rw [e2] at huq;have HC:=af (HPr.out (t.getD p []) arg up u wr hup.sets (HU.out.kept HKi.out));have HPV:Hid (rH t arg p=(aM (t.getD p []) arg).bind (bK (t.getD (p+1) []))):=af rfl;obtain ⟨z,hz⟩:∃ z,z=aM (t.getD p []) arg:=⟨_,rfl⟩;rw [<-hz] at HC HPV;have HUQ:=af huq;have HPL:=af hpl;have hfp:=HOI.out.free (p+1);have hp0:(0:Int)<=(p:Int):=by omega
     have hpm:(p:Int)<(m:Int)+1:=by omega
     have hpm1:(p:Int)+1<(m:Int)+1:=by omega
     have hp9:(p:Int)+1 - 1=(p:Int):=by omega
     clear hz hup huq g1 g2 e1 e2 hl' hpl ep;cases z with
     | none =>
      have HRN:Hid (r=none):=af (by
       have h1:eh t arg=none:=nx HPL.out HPV.out;have h2:=HST.out;rw [h1] at h2;rw [HR.out];unfold ff;rw [pk h2];rfl)
      go_wp2_with fail;refine HC.out.mono ?_;rintro e w2 ⟨he,hk2⟩;unfold dj at he;subst he;have HK2:=af (HKi.out.trans hk2);clear hk2 hcp hcq;rw [aN (show (4:Nat)≠0 by decide)];go_wp2;go_ret2;exact ⟨by rw [HRN.out];rfl,HK2.out⟩
     | some x =>
      go_wp2_with fail;refine HC.out.mono ?_;rintro e w2 ⟨⟨v2,rfl,ho2⟩,hk2⟩;have HO2:=af (HOI.out.kept hk2);have HK2:=af (HKi.out.trans hk2);have hcq2:=hk2.cell hcq;have HC2:=af (HPl.out (t.getD (p+1) []) x uq v2 w2 (HUQ.out.kept hk2).sets ho2.sets);have HPV2:Hid (rH t arg p=bK (t.getD (p+1) []) x):=af (by rw [HPV.out];rfl);obtain ⟨y,hy⟩:∃ y,y=bK (t.getD (p+1) []) x:=⟨_,rfl⟩;rw [<-hy] at HC2 HPV2;clear ho2 hk2 hcp hcq hy;cases y with
      | none =>
       have HRN:Hid (r=none):=af (by
        have h1:eh t arg=none:=nx HPL.out HPV2.out;have h2:=HST.out;rw [h1] at h2;rw [HR.out];unfold ff;rw [pk h2];rfl)
       go_wp2_with fail;refine HC2.out.mono ?_;rintro e w3 ⟨he,hk3⟩;unfold dj at he;subst he;have HK3:=af (HK2.out.trans hk3);have hcq3:=hk3.cell hcq2;have hf3:=(HO2.out.kept hk3).free (p+1);have HB3:=af (HK3.out.store (Nat.le_refl _) (p+1) (.slice none 0 0));clear hk3 hcq2;rw [aN (show (4:Nat)≠0 by decide)];go_wp2;go_ret2;exact ⟨by rw [HRN.out];rfl,HB3.out⟩
      | some y =>
       go_wp2_with fail;refine HC2.out.mono ?_;rintro e w3 ⟨⟨v3,rfl,ho3⟩,hk3⟩;obtain ⟨xa,xn,xc,rfl⟩:=ho3.1.ints.shape;have HK3:=af (HK2.out.trans hk3);have hcq3:=hk3.cell hcq2;have hf3:=(HO2.out.kept hk3).free (p+1);have HVN:=af (HV.out.step HPL.out HPV2.out);have hos:=(HO2.out.kept hk3).store (HO2.out.kept hk3).len (p+1) (ho3.mono (Nat.zero_le _));have HO4:=af hos;have HK4:=af (HK3.out.store (Nat.le_refl _) (p+1) (.slice xa xn xc));clear hk3 hcq2 ho3 hos;go_wp2_with fail;go_roundg p
       case measure=>omega
       case rel=>exact ⟨p,t'.set (p+1) y,by omega,by go_num,Nat.le_refl _,HVN,HO4,HK4⟩
    ·have hj9:j=0:=by omega
     subst hj9;have HGN:Hid (gj ([0] :: List.replicate m []) (args.take (q+1))=some t'):=af (by rw [HST.out];exact HV.out.done (by have:=HTL.out;omega));have HTL2:Hid (t'.length=m+1):=af (by rw [HV.out.1];exact HTL.out);go_wp2_with fail;go_roundg (n - (q+1))
     case measure=>omega
     case rel=>exact ⟨q+1,t',by omega,by go_num,Nat.le_refl _,HTL2,HOI,HGN,HKi⟩
  ·have hqn:¬ (q:Int)<(n:Int):=by omega
   have HRS:Hid (r=some (t.getD m [])):=af (by
    have h:=HG.out;rw [List.take_of_length_le (by have:=HN.out;omega)] at h;rw [HR.out];unfold ff;rw [h];rfl)
   obtain ⟨um,hcm,hum⟩:=HOT.out.cell m (by have:=HTL.out;omega)
   have HUM:Hid (aF wr 0 um (t.getD m [])):=af (by
    have e:t.getD m []=t[m]'(by have:=HTL.out;omega):=by simp [List.getD_eq_getElem?_getD,show m<t.length by have:=HTL.out;omega]
    rw [e];exact hum)
   have hmm:(m:Int)<(m:Int)+1:=by omega
   have hm0:(0:Int)<=(m:Int):=by omega
   clear hum;go_wp2;go_ret2;exact ⟨by rw [HRS.out];exact ⟨_,rfl,HUM.out⟩,HK.out⟩
def dD (w:World) (B:Nat) (v:Value) (xs:List Nd):Prop :=
 ∃ cells:List Value,w.ownsRow B 106 3 v xs.length cells/\xs.length<=1000 /\
  ∀ i (h:i<xs.length),∃ u,cells[i*3]?=some (.int .i64 xs[i].kind)/\cells[i*3+1]?=some (.int .i64 xs[i].k)/\cells[i*3+2]?=some u/\OwnInts w 0 u xs[i].args
theorem dD.slice {w:World} {B:Nat} {v:Value} {xs:List Nd} (h:dD w B v xs):∃ a c,v=.slice a xs.length c:=by
 obtain ⟨cells,⟨_,h⟩,_⟩:=h;rcases h with ⟨rfl,h0⟩ | ⟨g,cp,_,rfl,_⟩
 ·exact ⟨none,0,by rw [h0]⟩
 ·exact ⟨_,_,rfl⟩
theorem dD.at {w:World} {B:Nat} {v:Value} {xs:List Nd} (h:dD w B v xs):bp w v xs:=by
 obtain ⟨cells,⟨h1,h2⟩,h3,h4⟩:=h;rcases h2 with ⟨rfl,h6⟩ | ⟨g,cap,cur,rfl,h6,h7,h8,h9,h10,h11⟩
 ·have:xs=[]:=List.eq_nil_of_length_eq_zero h6
  subst this;exact ⟨none,0,rfl,⟨by simp,fun _=>rfl⟩,by simp,fun i h=>by simp at h⟩
 ·refine ⟨some ⟨g,0,none⟩,cap,rfl,⟨h8,fun h=>by cases h⟩,by omega,fun i hi=>⟨g,0,rfl,?_⟩⟩;obtain ⟨u,a,b,c,d⟩:=h4 i hi
  have hc:∀ j,j<xs.length*3->w.cell? ⟨g,0+j,none⟩=cells[j]?:=by
   intro j hj;have e1:(cur.toList.take (xs.length*3))[j]?=cells[j]?:=by rw [h11]
   rw [List.getElem?_take_of_lt hj] at e1;simp only [World.cell?,h7,Nat.zero_add];simpa using e1
  refine ⟨u,?_,?_,?_,d.ints⟩
  ·rw [hc _ (by omega)];exact a
  ·rw [Nat.add_assoc,hc _ (by omega)];exact b
  ·rw [Nat.add_assoc,hc _ (by omega)];exact c
def dC (w:World) (B:Nat) (v:Value) (xs:List Nd):Prop :=
 ∃ cells:List Value,w.ownsRow B 106 3 v xs.length cells/\xs.length<=1000 /\
  ∀ i (h:i<xs.length),∃ u,cells[i*3]?=some (.int .i64 xs[i].kind)/\cells[i*3+1]?=some (.int .i64 xs[i].k)/\cells[i*3+2]?=some u/\OwnInts w B u xs[i].args
theorem dC.kept {w w':World} {B:Nat} {v:Value} {xs:List Nd} (h:dC w B v xs) (hk:ag w w'):dC w' B v xs:=by
 obtain ⟨cells,h1,h2,h3⟩:=h;exact ⟨cells,fb h1 hk,h2,fun i hi=>let ⟨u,a,b,c,d⟩:=h3 i hi;⟨u,a,b,c,d.kept hk⟩⟩
theorem OwnInts.belowS {w:World} {B:Nat} {v:Value} {xs:List Int} (h:OwnInts w B v xs) {a:Addr} (ha:a.block<B) (u:Value):OwnInts (w.setCell a u) B v xs:=⟨ownsRow_setCell_below h.1 ha u,h.2⟩
theorem dC.below {w:World} {B:Nat} {v:Value} {xs:List Nd} (h:dC w B v xs) {a:Addr} (ha:a.block<B) (u:Value):dC (w.setCell a u) B v xs:=by
 obtain ⟨cells,h1,h2,h3⟩:=h;exact ⟨cells,ownsRow_setCell_below h1 ha u,h2,fun i hi=>let ⟨u1,a1,b1,c1,d1⟩:=h3 i hi;⟨u1,a1,b1,c1,d1.belowS ha u⟩⟩
theorem dC.nodes {w:World} {B:Nat} {v:Value} {xs:List Nd} (h:dC w B v xs):dD w B v xs:=by
 obtain ⟨cells,h1,h2,h3⟩:=h;exact ⟨cells,h1,h2,fun i hi=>let ⟨u,a,b,c,d⟩:=h3 i hi;⟨u,a,b,c,d.mono (Nat.zero_le _)⟩⟩
theorem dC.slice {w:World} {B:Nat} {v:Value} {xs:List Nd} (h:dC w B v xs):∃ a c,v=.slice a xs.length c:=h.nodes.slice
theorem Cd {ops:Array Oper} {rest:List Oper} {o:Oper} {a:Act} {Q:Exit->Act->World->Prop} {w:World} (hgd:o.guard=none) (s x:Operand)
  (ho:o.op=.call { callee:=.builtin .append,args:=#[s,x],argTypes:=#[39,39] }) (B:Nat) (v:Value) (xs:List Nd) (hs:a.eval s=v) (hown:dC w B v xs)
  (g:Nat) (y:Nd) (u:Value) (hx:a.eval x=.slice (some ⟨g,0,none⟩) 1 1) (hc:w.rangeAt g 0 [.int .i64 y.kind,.int .i64 y.k,u]) (hu:OwnInts w B u y.args) (hl:xs.length<1000) (hB:B<=w.heap.size)
  (h:∀ v' w',dC w' B v' (xs++[y])->w.grownBy w' v.ownBlock->Below B w w'->wpList Tryz.prog ops Q rest (a.put o.dst v') w'):wpList Tryz.prog ops Q (o :: rest) a w:=by
 obtain ⟨i0,hi0,hz0,hz1,hz2⟩:=info_parts qr;obtain ⟨cells,hown1,hkl,hcell⟩:=hown;obtain ⟨sa,sn,sc,rfl⟩:=hu.ints.shape;refine wpList_append_own _ hgd s x 39 ho B 106 i0 _ 3 40 Tryz.underlying39 hi0 hz0 hz1 hz2 rfl (by decide) v xs.length cells hs hown1 ⟨g,0,none⟩ 1 1 [.int .i64 y.kind,.int .i64 y.k,.slice sa sn sc] hx rfl ?_ ?_ (by unfold maxLen;omega) (by omega) hB ?_
 ·intro j u hj;have:=hc j u hj;rw [Addr.add_mid];exact this
 ·intro u hu;simp at hu;rcases hu with rfl | rfl | rfl <;> rfl
 ·intro v' w' h3 h4 _;have tag:∀ {u:Value} {zs:List Int},OwnInts w B u zs->OwnInts w' B u zs:=fun hz=>⟨xd hz.1 hown1 (by decide) (fun k hk hne=>h4.block k hk hne),hz.2⟩
  refine h v' w' ⟨cells++[.int .i64 y.kind,.int .i64 y.k,.slice sa sn sc],by simpa using h3,by simp;omega,?_⟩ h4 (bf h4 hown1 hB);intro i hi;simp at hi;have hcl:cells.length=xs.length*3:=hown1.1;by_cases hik:i<xs.length
  ·obtain ⟨u,e0,e1,e2,e3⟩:=hcell i hik;rw [List.getElem_append_left hik];refine ⟨u,?_,?_,?_,tag e3⟩
   ·rw [List.getElem?_append_left (by omega),e0]
   ·rw [List.getElem?_append_left (by omega),e1]
   ·rw [List.getElem?_append_left (by omega),e2]
  ·have e:i=xs.length:=by omega
   subst e;rw [List.getElem_append_right (Nat.le_refl _)];simp only [Nat.sub_self,List.getElem_cons_zero];refine ⟨.slice sa sn sc,?_,?_,?_,tag hu⟩
   ·rw [List.getElem?_append_right (by omega),hcl];simp
   ·rw [List.getElem?_append_right (by omega),hcl];simp
   ·rw [List.getElem?_append_right (by omega),hcl];simp
structure TInvN (w1 w3 wr:World) (g V n k:Nat) (ov:Value) (tl:List Int) (ks:List Nd) (mark:List Bool):Prop where
 tlen:tl.length=V+n
 tren:∀ a,(a<V\/(a<V+k/\mark.getD a false=true))->tl.getD a 0=nC V mark (a:Int)
 row:aj wr (w1.heap.size+1) 3 (tl.map (.int .i64))
 box:aj wr w1.heap.size 41 [.int .i64 V,ov,.int .i64 0]
 own:dC wr w3.heap.size ov ks
 marks:aj wr g 4 (mark.map .bool)
 kept:ag w1 wr
 size:w3.heap.size<=wr.heap.size
theorem xg {V:Nat} {mark:List Bool} {a:Nat} (h:a<V):nC V mark (a:Int)=(a:Int):=by unfold nC;rw [if_pos (by omega)]
theorem tp {V:Nat} {mark:List Bool} {k:Nat}:nC V mark ((V+k:Nat):Int)=((V+fm V mark k:Nat):Int):=by
 unfold nC;rw [if_neg (by omega),show (((V+k:Nat):Int) - (V:Int)).toNat=k by omega]
theorem TInvN.skip {w1 w3 wr:World} {g V n k:Nat} {ov:Value} {tl:List Int} {ks:List Nd} {mark:List Bool} (h:TInvN w1 w3 wr g V n k ov tl ks mark) (hm:mark.getD (V+k) false=false):TInvN w1 w3 wr g V n (k+1) ov tl ks mark :=
 ⟨h.tlen,fun a ha=>h.tren a (by
  rcases ha with ha | ⟨ha,hb⟩
  ·exact .inl ha
  ·by_cases e:a=V+k
   ·rw [e,hm] at hb;cases hb
   ·exact .inr ⟨by omega,hb⟩),h.row,h.box,h.own,h.marks,h.kept,h.size⟩
theorem xY {w1 w3 wo wr w6:World} {g V n k:Nat} {ov nv:Value} {tl:List Int} {ks:List Nd} {R:List Bool} {y:Nd} {cs:Array Value} (hI:TInvN w1 w3 wo g V n k ov tl ks R) (hK:ag wo wr) (h1:w1.heap.size+1<w3.heap.size) (hg:w1.heap.size+1<g) (hg3:g<w3.heap.size) (hkn:k<n) (hks:ks.length=fm V R k)
  (h6:dC w6 w3.heap.size nv (ks++[y])) (hg6:((wr.setCell ⟨w1.heap.size+1,V+k,none⟩ (.int .i64 ((V:Int)+(ks.length:Int)))).alloc (.cells cs 106)).grownBy w6 ov.ownBlock) :
  TInvN w1 w3 (w6.setCell ⟨w1.heap.size,1,none⟩ nv) g V n (k+1) nv (tl.set (V+k) ((V:Int)+(ks.length:Int))) (ks++[y]) R:=by
 have hs:=hK.size;have hs3:=hI.size;obtain ⟨t,ht⟩:∃ t:Int,t=(V:Int)+(ks.length:Int):=⟨_,rfl⟩;have htr:nC V R ((V+k:Nat):Int)=t:=by rw [tp,ht,hks];omega
 rw [<-ht] at hg6⊢
 have hown:∀ j,j<w3.heap.size->some j≠ov.ownBlock:=by
  intro j hj e;obtain ⟨cells,ho,_⟩:=hI.own;have:=(ho.lt _ e.symm).1;omega
 have hb:∀ j,j<w3.heap.size->w6.heap[j]?=(wr.setCell ⟨w1.heap.size+1,V+k,none⟩ (.int .i64 t)).heap[j]?:=by
  intro j hj;have l1:(wr.setCell ⟨w1.heap.size+1,V+k,none⟩ (.int .i64 t)).heap.size=wr.heap.size:=by simp [World.setCell]
  exact (hg6.block j (by simp;omega) (hown j hj)).trans (Below.heap_alloc _ _ j (by omega))
 have hrow:=(hI.row.kept hK).store (V+k) (.int .i64 t);rw [<-List.map_set] at hrow;have hbox:=((hI.box.kept hK).other (p:=w1.heap.size+1) (by omega) (V+k) (.int .i64 t));have hmk:=((hI.marks.kept hK).other (p:=w1.heap.size+1) (by omega) (V+k) (.int .i64 t));refine ⟨by rw [List.length_set];exact hI.tlen,fun a ha=>?_,?_,?_,h6.below (by show w1.heap.size<_;omega) _,?_,?_,?_⟩
 ·by_cases e:a=V+k
  ·subst e;rw [List.getD_eq_getElem?_getD,List.getElem?_set_self (by rw [hI.tlen];omega),Option.getD_some];exact htr.symm
  ·rw [List.getD_eq_getElem?_getD,List.getElem?_set_ne (Ne.symm e),<-List.getD_eq_getElem?_getD];exact hI.tren a (ha.imp id fun h=>⟨by omega,h.2⟩)
 ·exact (hrow.same (hb _ (by omega))).other (by omega) _ _
 ·have:=(hbox.same (hb _ (by omega))).store 1 nv;simpa using this
 ·exact (hmk.same (hb _ (by omega))).other (by omega) _ _
 ·have l1:(wr.setCell ⟨w1.heap.size+1,V+k,none⟩ (.int .i64 t)).heap.size=wr.heap.size:=by simp [World.setCell]
  have k1:ag w1 (wr.setCell ⟨w1.heap.size+1,V+k,none⟩ (.int .i64 t)):=(hI.kept.trans hK).store (by omega) _ _;have k2:ag w1 w6:=(k1.alloc _).app ⟨hg6.os,hg6.tape,hg6.output,hg6.size,fun j hj=>hg6.block j (by simp;omega) (hown j (by omega))⟩;exact k2.store (Nat.le_refl _) _ _
 ·have l1:(wr.setCell ⟨w1.heap.size+1,V+k,none⟩ (.int .i64 t)).heap.size=wr.heap.size:=by simp [World.setCell]
  have:=hg6.size;simp at this;simp [World.setCell] at this⊢;omega
theorem jB {V T:Nat} {f:Fm} (hok:Ok f V T):(aR V T f.nodes).getD T false=true:=by
 refine eB V f.nodes _ _ _ ?_;rw [List.getD_eq_getElem?_getD,List.getElem?_set_self (by simpa using hok.tlt)];rfl
theorem dD.mono {w:World} {B B':Nat} {v:Value} {xs:List Nd} (h:dD w B v xs) (hb:B'<=B):dD w B' v xs:=by
 obtain ⟨cells,h1,h2⟩:=h;exact ⟨cells,lK h1 hb,h2⟩
theorem C_ (V n a:Nat) (h:a<V):(xm V n V).getD a 0=(a:Int):=by
 unfold xm;rw [List.getD_eq_getElem?_getD,List.getElem?_append_left (by simpa using h)];simp [h]
theorem p' (V:Nat) (R:List Bool) (args:List Int) (p:Nat) (h:p<args.length):(args.take (p+1)).map (nC V R)=(args.take p).map (nC V R)++[nC V R args[p]]:=by
 rw [List.take_succ_eq_append_getElem h,List.map_append];rfl
theorem zg (v:Value) (f:Fm) (V T:Nat) (w:World) (hv:bp w v f.nodes) (hok:Ok f V T) (hck:fJ f=0) :
  Calls Tryz.prog 81 #[.agg #[.int .i64 V,v,.int .i64 T]] w fun e w'=>∃ tv,e=.returned (.tuple #[.agg #[.int .i64 V,tv,.int .i64 (nC V (aR V T f.nodes) (T:Int))],.nilIface])/\dD w' w.heap.size tv (aV V (aR V T f.nodes) f.nodes f.nodes.length)/\ag w w':=by
 have hchk:=fU v f w hv (by rw [hok.top];have:=hok.tlt;have:=hok.n128;have:=hok.v24;omega);rw [hck] at hchk;unfold sx at hchk;rw [hok.vars,hok.top] at hchk;have HCH:=af (fun W (hk:ag w W)=>fU v f W (hv.kept hk) (by rw [hok.top];have:=hok.tlt;have:=hok.n128;have:=hok.v24;omega));have HBL:=af (fun W (hk:ag w W)=>qd v f V T W (hv.kept hk) hok);have HV:=af hv;obtain ⟨a,c,rfl,_,hl,hx⟩:=hv;obtain ⟨n,hn⟩:∃ n,n=f.nodes.length:=⟨_,rfl⟩;rw [<-hn] at hl HCH HBL;have hn9:n<=128:=by rw [hn];exact hok.n128
 have hV9:=hok.v24;have hT9:T<V+n:=by rw [hn];exact hok.tlt
 have E1:=af (show sx (.slice a n c) f=.agg #[.int .i64 V,.slice a n c,.int .i64 T] by unfold sx;rw [hok.vars,hok.top]);have hch2:∀ W,ag w W->Calls Tryz.prog 30 #[.agg #[.int .i64 V,.slice a n c,.int .i64 T]] W fun e w'=>e=.returned (aY (fJ f))/\ag W w':=fun W hk=>by have:=HCH.out W hk;rw [E1.out] at this;exact this
 have HCH2:=af hch2;clear hch2;clear HCH E1;have E2:=af (show aY (fJ f)=.nilIface by rw [hck];rfl);have HX:=af hx;have HN:=af hn;have HO:=af hok;have HCL:=af (cZ V T f hok);have HTM:=af (jB hok);rw [<-hn];clear hx hn hok hl hck hchk;go_enter Tryz.func81,Tryz.ntmps81
 go_wp2_with (first
  | (go_at_call 30;refine (HCH2.out _ (((ag.refl _).alloc _).alloc _)).mono ?_;rintro e w1 ⟨rfl,hk1⟩;rw [E2.out];have hs1:=hk1.size;simp only [World.size_alloc] at hs1;have ls0:w.heap.size<w1.heap.size:=(by omega);have ls1:w.heap.size+1<w1.heap.size:=(by omega);have b0:=hk1.cell (p:=⟨w.heap.size,0,none⟩) (v:=.int .i64 V) (by simp);have b1:=hk1.cell (p:=⟨w.heap.size,1,none⟩) (v:=.slice a n c) (by simp);have b2:=hk1.cell (p:=⟨w.heap.size,2,none⟩) (v:=.int .i64 T) (by simp))
  | (at_make;refine cS 22 3 _ 8 eX Tryz.underlying22 rfl rfl _ _ rfl (V+n) (by show Value.int .i64 ((V:Int)+(n:Int))=.int .i64 ((V+n:Nat):Int);rw [Int.natCast_add]) (by show Value.int .i64 ((V:Int)+(n:Int))=.int .i64 ((V+n:Nat):Int);rw [Int.natCast_add]) (by omega) (by unfold maxLen;omega) ?_;intro w2 hr2 hk2;simp only [World.size_alloc] at hr2;have HR2:=af hr2;clear hr2;have hk02:=(hk1.trans ((ag.refl _).alloc _)).trans hk2;have d0:=hk02.cell (p:=⟨w.heap.size,0,none⟩) (v:=.int .i64 V) (by simp)))
 go_loopw [7,32] (fun _ i wr=>∃ k:Nat,k<=V/\i=.int .i64 k/\aj wr (w1.heap.size+1) 3 ((xm V n k).map (.int .i64))/\ag (w1.alloc (.cells #[.int .i64 V,.slice none 0 0,.int .i64 0] 41)) wr) (fun _ i _=>V - (intOf i).toNat)
 case atStart=>exact ⟨0,Nat.zero_le _,rfl,by simpa [xm] using HR2.out,hk2⟩
 case round =>
  clear hk2;obtain ⟨k,hk,rfl,hrow,hK⟩:=hrel;by_cases hlt:k<V
  ·have cY:=hrow.cell (i:=k) (by rw [List.length_map,nW V n k hk];omega);have fY:=hrow.free k;have hnew:=hrow.store k (.int .i64 k);have hKn:=hK.store (g:=w1.heap.size+1) (by simp) k (.int .i64 k);have hY1:(k:Int)<(V:Int)+(n:Int):=by omega
   have hY2:(k:Int)<((V+n:Nat):Int):=by omega
   rw [<-List.map_set,tK V n k hlt] at hnew;have HNW:=af hnew;have HKN:=af hKn;clear hnew hKn hrow hK;go_wp2;go_roundw
   case rel=>exact ⟨k+1,by omega,by go_num,HNW.out,HKN.out⟩
   case measure=>simp [intOf];omega
  ·have e:k=V:=by omega
   have htl:=nW V n k hk;have HT0:Hid (∀ a:Nat,a<V->(xm V n k).getD a 0=(a:Int)):=af (by rw [e];exact fun a h=>C_ V n a h);obtain ⟨tl,htle⟩:∃ tl,tl=xm V n k:=⟨_,rfl⟩;rw [<-htle] at hrow htl HT0;have hkw:=(hk1.trans ((ag.refl _).alloc _)).trans hK;have hkW:ag w wr:=(((ag.refl w).alloc _).alloc _).trans hkw;have q0:=hkw.cell (p:=⟨w.heap.size,0,none⟩) (v:=.int .i64 V) (by simp);have q1:=hkw.cell (p:=⟨w.heap.size,1,none⟩) (v:=.slice a n c) (by simp);have q2:=hkw.cell (p:=⟨w.heap.size,2,none⟩) (v:=.int .i64 T) (by simp);have hlt1:=hrow.lt;have HTZ:Hid (∀ a:Nat,a<V->tl.getD a 0=(a:Int)):=HT0;clear HT0;have HRO:=af hrow;have HKK:=af hK;have HKW:=af hkW;have hVn:(V:Int)<=(V:Int)+(n:Int):=by omega
   have hVn2:(V:Int)<=((V+n:Nat):Int):=by omega
   clear e hrow hkw hkW hK htle;go_wp2
   go_region_held3 (fun w'=>w'.cell? ⟨w.heap.size,0,none⟩=some (.int .i64 V)/\w'.cell? ⟨w.heap.size,1,none⟩=some (.slice a n c)/\w'.cell? ⟨w.heap.size,2,none⟩=some (.int .i64 T))
    (first | go_keep | exact ⟨hk3.cell q0,hk3.cell q1,hk3.cell q2⟩)
    (first | (go_at_call 136;refine (HBL.out _ (HKW.out.drew)).mono ?_;rintro e w3 ⟨g,rfl,hg,hr3,hk3⟩))
   obtain ⟨R,hR⟩:∃ R,R=aR V T f.nodes:=⟨_,rfl⟩;rw [<-hR] at hr3;have HR3:=af hr3;have HRe:=af hR;have HG3:g<w3.heap.size:=HR3.out.lt;have hg2:w1.heap.size+1<g:=by have h9:wr.heap.size<=g:=hg;omega
   have hkw3:ag (w1.alloc (.cells #[.int .i64 V,.slice none 0 0,.int .i64 0] 41)) w3:=HKK.out.trans ((ag.refl wr).drew.trans hk3)
   have hinv0:TInvN w1 w3 w3 g V n 0 (.slice none 0 0) tl [] R:=⟨htl,fun a ha=>by
    have hav:a<V:=by rcases ha with h | h <;> omega
    rw [HTZ.out a hav,xg hav],HRO.out.kept ((ag.refl wr).drew.trans hk3),(aj.made w1 _ _).kept hkw3,⟨[],World.ownsRow_nil _ _ _ _,by simp,fun i h=>by simp at h⟩,HR3.out,((ag.refl w1).alloc _).trans hkw3,Nat.le_refl _⟩
   have HI0:=af hinv0;have HKW1:=af hk1;clear hR hr3 hinv0 hkw3 hk3 q0 q1 q2 HRO HKK hg;by_cases hn0:n=0
   ·subst hn0;have hkW2:=HKW1.out.trans HI0.out.kept;have hbx:=HI0.out.box;have d0:=hkW2.cell (p:=⟨w.heap.size,0,none⟩) (v:=.int .i64 V) (by simp);have d2:=hkW2.cell (p:=⟨w.heap.size,2,none⟩) (v:=.int .i64 T) (by simp);have c0:=hbx.cell (i:=0) (by simp);have c1:=hbx.cell (i:=1) (by simp);have c2:=hbx.cell (i:=2) (by simp);have f2:=hbx.free 2;have hTl:T<tl.length:=by rw [HI0.out.tlen];omega
    obtain ⟨zt,hzt⟩:∃ zt:Int,zt=tl[T]:=⟨_,rfl⟩;have cT:w3.cell? ⟨w1.heap.size+1,T,none⟩=some (.int .i64 zt):=by have:=HI0.out.row.cell (i:=T) (by simpa using hTl);rw [List.getElem_map] at this;rw [hzt];exact this
    have HZT:Hid (zt=nC V R (T:Int)):=af (by have h:=HI0.out.tren T (.inl (by omega));rw [hzt,<-h];simp [List.getD_eq_getElem?_getD,hTl]);clear hzt;have hY1:(T:Int)<(V:Int):=by omega
    have hres:aj w3 (w.heap.size+1) 41 [.int .i64 0,.slice none 0 0,.int .i64 0]:=by
     have:=(aj.made (w.alloc (.cells #[.int .i64 V,.slice a 0 c,.int .i64 T] 41)) #[.int .i64 0,.slice none 0 0,.int .i64 0] 41).kept hkW2;simpa using this
    have r0:=hres.cell (i:=0) (by simp);have r1:=hres.cell (i:=1) (by simp);have r2:=hres.cell (i:=2) (by simp);have s0:=hres.free 0;have s1:=hres.free 1;have s2:=hres.free 2;simp only [List.getElem_cons_succ,List.getElem_cons_zero] at r0 r1 r2 c0 c1 c2;have ne1:w1.heap.size≠w.heap.size+1:=by omega
    have ne2:w.heap.size+1≠w1.heap.size:=by omega
    clear hbx hres;go_wp2;refine wp_loop_rounds 1 ?_;rw [rounds_succ];go_wp2;refine bodyPost_ret (v:=.tuple #[.agg #[.int .i64 V,.slice none 0 0,.int .i64 zt],.nilIface]) ?_ rfl ⟨.slice none 0 0,?_,?_,?_⟩
    ·simp [results,Tryz.results81,go_sem,r0,r1,r2]
    ·rw [<-HRe.out,<-HZT.out]
    ·exact ⟨[],World.ownsRow_nil _ _ _ _,by simp [aV],fun i h=>by simp [aV] at h⟩
    ·have hkA:ag w w3:=(((ag.refl w).alloc _).alloc _).trans hkW2;exact (((hkA.store (by omega) _ _).store (by omega) _ _).store (by omega) _ _).store (by omega) _ _
   ·have hn1:0<n:=by omega
    have hn2:V<V+n:=by omega
    go_wp2;go_loopw [8,9,10,11,13,46,66] (fun _ _ _ _ _ i _ wr=>∃ (k:Nat) (ov:Value) (tl:List Int),k<=n/\i=.int .i64 k/\TInvN w1 w3 wr g V n k ov tl (aV V R f.nodes k) R) (fun _ _ _ _ _ i _ _=>n - (intOf i).toNat)
    case atStart=>exact ⟨0,_,tl,Nat.zero_le _,rfl,HI0.out⟩
    case round =>
     obtain ⟨k,ov,tl,hk,rfl,hinv⟩:=hrel;have hkW2:=HKW1.out.trans hinv.kept;have q0:=hkW2.cell (p:=⟨w.heap.size,0,none⟩) (v:=.int .i64 V) (by simp);have q1:=hkW2.cell (p:=⟨w.heap.size,1,none⟩) (v:=.slice a n c) (by simp);have q2:=hkW2.cell (p:=⟨w.heap.size,2,none⟩) (v:=.int .i64 T) (by simp);by_cases hlt:k<n
     ·have hRl:R.length=V+n:=by rw [HRe.out,oE,HN.out]
      have cm:=hinv.marks.cell (i:=V+k) (by simp;omega);rw [dW R (V+k) (by omega)] at cm;have hup:aV V R f.nodes (k+1)=if R.getD (V+k) false=true then aV V R f.nodes k++[pw V R (f.nodes.getD k bz)] else aV V R f.nodes k:=rfl
      have HUP:=af hup;clear hup;cases hmk:R.getD (V+k) false with
      | false =>
       rw [hmk] at cm;have HMK:=af hmk;have HI:=af hinv;clear hmk hinv hkW2;go_wp2;go_roundw
       case rel=>exact ⟨k+1,ov,tl,by omega,by go_num,by rw [HUP.out,HMK.out,if_neg (by simp)];exact HI.out.skip HMK.out⟩
       case measure=>simp [intOf];omega
      | true =>
       rw [hmk] at cm;have HMK:=af hmk;have HI:=af hinv;clear hmk hinv;have hkx:k<f.nodes.length:=by have:=HN.out;omega
       obtain ⟨b,o,rfl,u,hc1,hc2,hc3,hI⟩:=HX.out k hkx;have hkA:ag w wr:=(((ag.refl w).alloc (.cells #[.int .i64 V,.slice (some ⟨b,o,none⟩) n c,.int .i64 T] 41)).alloc (.cells #[.int .i64 0,.slice none 0 0,.int .i64 0] 41)).trans hkW2;have hrange:=eZ (hkA.cell hc1) (hkA.cell hc2) (hkA.cell hc3);obtain ⟨ax,cx,rfl,_,hlx,hcx⟩:=hI;have HRG:=af hrange;clear hc1 hc2 hc3 hrange;go_wp2_with (with_reducible refine wpList_load_mid rfl 106 _ rfl b (o+k*3) rfl _ _ HRG.out Tryz.underlying106 rfl (by kernel_rfl) ?_);obtain ⟨kd,hkd⟩:∃ x,x=f.nodes[k].kind:=⟨_,rfl⟩;obtain ⟨kk,hkk⟩:∃ x,x=f.nodes[k].k:=⟨_,rfl⟩;have hargs:=HO.out.args k hkx;have h16:=jA (HO.out.argc k hkx);obtain ⟨args,hag⟩:∃ x,x=f.nodes[k].args:=⟨_,rfl⟩;rw [<-hag] at hcx hargs hlx h16;rw [<-hkd,<-hkk,<-hag];obtain ⟨na,hna⟩:∃ x,x=args.length:=⟨_,rfl⟩;rw [<-hna] at hlx h16⊢;have HKD:=af hkd;have HKK:=af hkk;have HCX:=af hcx;have HAR:=af hargs;have HMA:Hid (∀ a∈args,R.getD a.toNat false=true):=af (by have h:=HCL.out k hkx (by rw [<-HRe.out];exact HMK.out);rw [<-HRe.out] at h;rw [hag];exact h);have HAG:=af hag;have HNA:=af hna;have HKA:=af hkA;obtain ⟨i0,hi0,hz0,hz1,hz2⟩:=info_parts eX;have I0:=af hi0;have I1:=af hz0;have I2:=af hz1;have I3:=af hz2;have sz1:w1.heap.size+1<wr.heap.size:=HI.out.row.lt
       obtain ⟨wo,rfl⟩:∃ wo:World,wo=wr:=⟨_,rfl⟩;clear hkd hkk hag hcx hargs hna hkA hkW2 hi0 hz0 hz1 hz2 q0 q1 q2 cm;go_loopw [13,66] (fun _ j wi=>∃ (p:Nat) (uv:Value) (ys:List Int),p<=na/\j=.int .i64 p/\Hid (ys=(args.take p).map (nC V R))/\OwnInts wi (wo.heap.size+2) uv ys/\aj wi (wo.heap.size+1) 106 [.int .i64 kd,.int .i64 kk,uv]/\ag wo wi/\wo.heap.size+2<=wi.heap.size) (fun _ j _=>na - (intOf j).toNat)
       case atStart=>exact ⟨0,.slice none 0 0,[],Nat.zero_le _,rfl,af (by simp),OwnInts.nil _ _,by have:=aj.made (wo.alloc (.cells #[.int .i64 kd,.int .i64 kk,.slice ax na cx] 106)) #[.int .i64 kd,.int .i64 kk,.slice none 0 0] 106;simpa using this,((ag.refl _).alloc _).alloc _,by simp⟩
       case round =>
        obtain ⟨p,uv,ys,hp,rfl,HYS,hown,hrow,hK,hsz⟩:=hrel;have hysl:ys.length<=p:=by rw [HYS.out,List.length_map,List.length_take];omega
        by_cases hpn:p<na
        ·have hpx:p<args.length:=by have:=HNA.out;omega
         obtain ⟨b2,o2,rfl,hc0⟩:=HCX.out p hpx;have hcell:=(HKA.out.trans hK).cell hc0;obtain ⟨y,hy⟩:∃ y,y=args[p]:=⟨_,rfl⟩;have hy2:=HAR.out args[p] (List.getElem_mem _);have hym:=HMA.out args[p] (List.getElem_mem _);have hyr:=p' V R args p hpx;rw [<-hy] at hcell hy2 hym hyr;obtain ⟨Y,hY⟩:=Int.eq_ofNat_of_zero_le hy2.1;subst hY;have hYl:Y<tl.length:=by rw [HI.out.tlen];omega
         have cT:=hK.cell (HI.out.row.cell (i:=Y) (by simpa using hYl));obtain ⟨z,hz⟩:∃ z,z=tl[Y]:=⟨_,rfl⟩;simp only [List.getElem_map] at cT;rw [<-hz] at cT
         have HYR:Hid (ys++[z]=(args.take (p+1)).map (nC V R)):=af (by
          have h:=HI.out.tren Y (.inr ⟨by omega,hym⟩);have h2:tl.getD Y 0=z:=by rw [hz];simp [List.getD_eq_getElem?_getD,hYl]
          rw [hyr,<-HYS.out,<-h,h2])
         clear hym hyr;have hY1:(Y:Int)<(V:Int)+(n:Int):=by omega
         have hY2:(Y:Int)<((V+n:Nat):Int):=by omega
         have cB:=hrow.cell (i:=2) (by simp);have fB:=hrow.free 2;simp only [List.getElem_cons_succ,List.getElem_cons_zero] at cB;have hszi:wo.heap.size+1<wr.heap.size:=by omega
         have hszj:w1.heap.size+1<wr.heap.size:=by omega
         have HOWN:=af hown;have HROW:=af hrow;have HK:=af hK
         have hfar:some (wo.heap.size+1)≠uv.ownBlock:=by
          intro e;have:=(hown.1.lt _ e.symm).1;omega
         have HFAR:=af hfar;clear hc0 hy hz hown hrow hK hfar;go_wp2;go_region_law ((refine step_append_lies _ (by rfl) _ _ _ (by rfl) (wo.heap.size+2) 3 i0 _ 1 8 Tryz.underlying22 I0.out I1.out I2.out I3.out rfl (by omega) uv ys.length _ (by rfl) ((HOWN.out.1.alloc _).drew) ⟨wr.heap.size,0,none⟩ 1 1 [.int .i64 z] (by rfl) (by rfl) (World.news_of_block (cs:=#[.int .i64 z]) (t:=3) (fr:=(0,0)) (heap_alloc_new wr _)) (by simp [Value.oneCell']) (by omega) (by unfold maxLen;omega) (by omega) (by simp;omega) (wr.heap.size+1) (by simp) ?_;intro gg cap w5 hown5 hgrow hat hlt5;have st5:=hgrow.cell (a:=⟨wo.heap.size+1,2,none⟩) (v:=uv) (((ag.refl wr).alloc _).cell cB) HFAR.out;have sf5:=(World.frozen?_of_block (a:=⟨wo.heap.size+1,2,none⟩) (hgrow.block (wo.heap.size+1) (by simp;omega) HFAR.out)).trans ((Below.frozen ((ag.refl wr).alloc _) (p:=⟨wo.heap.size+1,2,none⟩) (by simp;omega)).trans fB)));all_goals go_wp2
         all_goals
          have R9:=sb (o:=.cells #[.int .i64 z] 3) HOWN.out HROW.out HK.out hsz (by omega) hown5 ⟨hgrow.os,hgrow.tape,hgrow.output,hgrow.size,hgrow.block⟩;go_roundw
          case rel=>exact ⟨p+1,_,_,by omega,by go_num,HYR,R9.1,R9.2.1,R9.2.2.1,R9.2.2.2⟩
          case measure=>simp [intOf];omega
        ·obtain ⟨ks,hks⟩:∃ ks,ks=aV V R f.nodes k:=⟨_,rfl⟩;have hkl:(aV V R f.nodes k).length<=k:=by rw [gB];exact wT V R k
         have HKC:Hid (ks.length=fm V R k):=af (by rw [hks,gB]);have HYA:Hid (ys=args.map (nC V R)):=af (by have h:=HYS.out;rwa [List.take_of_length_le (by have:=HNA.out;omega)] at h);rw [<-hks] at HI HUP hkl;have HKL:=af (show ks.length<1000 by omega);have hkc:=(HKW1.out.trans HI.out.kept).trans hK;have q0:=hkc.cell (p:=⟨w.heap.size,0,none⟩) (v:=.int .i64 V) (by simp);have hbx:=HI.out.box.kept hK;have c5:=hbx.cell (i:=1) (by simp);have f5:=hbx.free 1;have hrt:=HI.out.row.kept hK;have cT:=hrt.cell (i:=V+k) (by simp [HI.out.tlen];omega);have fT:=hrt.free (V+k);have hY1:(V:Int)+(k:Int)<(V:Int)+(n:Int):=by omega
         have hY2:(V:Int)+(k:Int)<((V+n:Nat):Int):=by omega
         have szz:w1.heap.size<wr.heap.size:=by omega
         have hrng:wr.rangeAt (wo.heap.size+1) 0 [.int .i64 kd,.int .i64 kk,uv]:=by
          intro j v hj
          match j,hj with
          | 0,hj=>simp at hj;subst hj;exact hrow.cell (i:=0) (by simp)
          | 1,hj=>simp at hj;subst hj;exact hrow.cell (i:=1) (by simp)
          | 2,hj=>simp at hj;subst hj;exact hrow.cell (i:=2) (by simp)
         simp only [List.getElem_cons_succ,List.getElem_cons_zero] at c5;obtain ⟨oa,oc,hov⟩:=HI.out.own.slice;subst hov;obtain ⟨on,hon⟩:∃ on,on=ks.length:=⟨_,rfl⟩;rw [<-hon] at HI c5 hbx hkl HKC;obtain ⟨ua,un,uc,huv⟩:=hown.ints.shape;subst huv;have HRNG:=af (fun x=>nA hrng (p:=w1.heap.size+1) (by omega) (V+k) x);have HRT:=af hrt;have HBX:=af hbx;have HK:=af hK;have HON:=af hon;clear hrng hrt hbx hK hkc hks hrow hon;have g3:g<w3.heap.size:=HG3;have g4:w1.heap.size+1<w3.heap.size:=by omega
         have hok1:=(HI.out.own.kept HK.out);have HOWU:=af (fun x=>((hown.mono (show w3.heap.size<=wo.heap.size+2 by have:=HI.out.size;omega)).belowS (a:=⟨w1.heap.size+1,V+k,none⟩) (by show w1.heap.size+1<_;omega) x).kept ((ag.refl _).alloc (.cells #[.int .i64 kd,.int .i64 kk,.slice ua un uc] 106)));clear hown;have HOK1:=af (fun x=>(hok1.below (a:=⟨w1.heap.size+1,V+k,none⟩) (by show w1.heap.size+1<_;omega) x).kept ((ag.refl _).alloc (.cells #[.int .i64 kd,.int .i64 kk,.slice ua un uc] 106)))
         have hne5:some w1.heap.size≠(Value.slice oa on oc).ownBlock:=by
          intro e;obtain ⟨cells,ho,_⟩:=HI.out.own;have:=(ho.lt _ e.symm).1;omega
         have HNE5:=af hne5;have hw3r:w3.heap.size<=wr.heap.size:=Nat.le_trans HI.out.size HK.out.size;clear hok1 hne5
         go_wp2_with (first
          | (with_reducible refine wpList_load_mid rfl 106 _ rfl (wo.heap.size+1) 0 rfl _ _ (HRNG.out _) Tryz.underlying106 rfl (by kernel_rfl) ?_)
          | (at_builtin;refine Cd rfl _ _ rfl w3.heap.size _ ks rfl (HOK1.out _) _ ⟨kd,kk,ys⟩ (.slice ua un uc) rfl (nz _ _ _ _ _ _ _) (HOWU.out _) HKL.out (by simp [World.setCell];omega) ?_;intro nv w6 hown6 hg6 hb6;obtain ⟨xa,xc,rfl⟩:=hown6.slice;have HOWN6:=af hown6;clear hown6;have st5:=hg6.cell (a:=⟨w1.heap.size,1,none⟩) (v:=.slice oa on oc) (((ag.refl _).alloc _).cell (ky c5 (p:=w1.heap.size+1) (by show w1.heap.size≠_;omega) _ _)) HNE5.out;have sf5:=(World.frozen?_of_block (a:=⟨w1.heap.size,1,none⟩) (hg6.block w1.heap.size (by simp [World.setCell];omega) HNE5.out)).trans (((ag.refl _).alloc _).free (p:=⟨w1.heap.size,1,none⟩) (by simp [World.setCell];omega) (oz f5 (p:=w1.heap.size+1) (by show w1.heap.size≠_;omega) _ _))))
         have RI:=xY (y:=⟨kd,kk,ys⟩) HI.out HK.out g4 hg2 g3 hlt (HON.out ▸ HKC.out) HOWN6.out (by rw [<-HON.out];exact ⟨hg6.os,hg6.tape,hg6.output,hg6.size,hg6.block⟩);rw [show (ks++[(⟨kd,kk,ys⟩:Nd)]).length=ks.length+1 by simp] at RI;go_roundw
         case rel=>exact ⟨k+1,_,_,by omega,by go_num,by rw [HUP.out,HMK.out,if_pos rfl,show pw V R (f.nodes.getD k bz)=⟨kd,kk,ys⟩ by unfold pw;rw [HKD.out,HKK.out,HYA.out,HAG.out];simp [List.getD_eq_getElem?_getD,hkx]];exact RI⟩
         case measure=>simp [intOf];omega
     ·have e:k=n:=by omega
      subst e;obtain ⟨oa,oc,hov⟩:=hinv.own.slice;subst hov;have hbx:=hinv.box;have c0:=hbx.cell (i:=0) (by simp);have c1:=hbx.cell (i:=1) (by simp);have c2:=hbx.cell (i:=2) (by simp);have f2:=hbx.free 2;have hTl:T<tl.length:=by rw [hinv.tlen];omega
      obtain ⟨zt,hzt⟩:∃ zt:Int,zt=tl[T]:=⟨_,rfl⟩;have cT:wr.cell? ⟨w1.heap.size+1,T,none⟩=some (.int .i64 zt):=by have:=hinv.row.cell (i:=T) (by simpa using hTl);rw [List.getElem_map] at this;rw [hzt];exact this
      have HZT:Hid (zt=nC V R (T:Int)):=af (by have h:=hinv.tren T (.inr ⟨by omega,by rw [HRe.out];exact HTM.out⟩);rw [hzt,<-h];simp [List.getD_eq_getElem?_getD,hTl]);clear hzt;have hY1:(T:Int)<(V:Int)+(k:Int):=by omega
      have hY2:(T:Int)<((V+k:Nat):Int):=by omega
      have hres:aj wr (w.heap.size+1) 41 [.int .i64 0,.slice none 0 0,.int .i64 0]:=by
       have:=(aj.made (w.alloc (.cells #[.int .i64 V,.slice a k c,.int .i64 T] 41)) #[.int .i64 0,.slice none 0 0,.int .i64 0] 41).kept hkW2;simpa using this
      have r0:=hres.cell (i:=0) (by simp);have r1:=hres.cell (i:=1) (by simp);have r2:=hres.cell (i:=2) (by simp);have s0:=hres.free 0;have s1:=hres.free 1;have s2:=hres.free 2;simp only [List.getElem_cons_succ,List.getElem_cons_zero] at r0 r1 r2;simp only [List.getElem_cons_succ,List.getElem_cons_zero] at c0 c1 c2;have HI:=af hinv;have ne1:w1.heap.size≠w.heap.size+1:=by omega
      have ne2:w.heap.size+1≠w1.heap.size:=by omega
      clear hinv hbx hres;go_wp2;refine bodyPost_ret (v:=.tuple #[.agg #[.int .i64 V,.slice oa (aV V R f.nodes k).length oc,.int .i64 zt],.nilIface]) ?_ rfl ⟨.slice oa (aV V R f.nodes k).length oc,?_,?_,?_⟩
      ·simp [results,Tryz.results81,go_sem,r0,r1,r2]
      ·rw [<-HRe.out,<-HZT.out]
      ·rw [<-HRe.out];have h3:w1.heap.size+1<w3.heap.size:=by omega
       exact ((((HI.out.own.below (a:=⟨w1.heap.size,2,none⟩) (by show w1.heap.size<_;omega) _).below (a:=⟨w.heap.size+1,0,none⟩) (by show w.heap.size+1<_;omega) _).below (a:=⟨w.heap.size+1,1,none⟩) (by show w.heap.size+1<_;omega) _).below (a:=⟨w.heap.size+1,2,none⟩) (by show w.heap.size+1<_;omega) _).nodes.mono (by omega)
      ·have hkA:ag w wr:=(((ag.refl w).alloc _).alloc _).trans hkW2;exact (((hkA.store (by omega) _ _).store (by omega) _ _).store (by omega) _ _).store (by omega) _ _
theorem te (k:Int) (hk:k=0\/k=1) (ua:Option Addr) (un uc:Nat) (v:Value) (fams:List (List Nat)) (w:World) :
  Calls Tryz.prog 82 #[.agg #[.int .i64 0,.int .i64 k,.slice ua un uc],v] w fun e w'=>dj w' 0 e (cz 0 k fams)/\ag w w':=by
 rcases hk with rfl | rfl
 ·go_enter Tryz.func82,Tryz.ntmps82;go_wp2;go_ret2;refine ⟨⟨_,rfl,?_⟩,((ag.refl _).alloc _).alloc _⟩;have:=aF.one (w.alloc (.cells #[.int .i64 0,.int .i64 0,.slice ua un uc] 106)) 0 0 (by unfold Mk;omega) (Nat.zero_le _);simpa using this
 ·go_enter Tryz.func82,Tryz.ntmps82;go_wp2;go_ret2;exact ⟨⟨_,rfl,aF.nil _ _⟩,(ag.refl _).alloc _⟩
theorem A_ (k:Int) (ua:Option Addr) (un uc:Nat) (v:Value) (fams:List (List Nat)) (w:World) (hv:eP w v fams) :
  Calls Tryz.prog 82 #[.agg #[.int .i64 3,.int .i64 k,.slice ua un uc],v] w fun e w'=>dj w' 0 e (bO aM [0] fams)/\ag w w':=by
 have h:∀ W,ag w W->Calls Tryz.prog 137 #[v] W fun e w'=>dj w' W.heap.size e (bO aM [0] fams)/\ag W w':=fun W hk=>CP v fams W (hv.kept hk)
 obtain ⟨r,hr⟩:∃ r,r=bO aM [0] fams:=⟨_,rfl⟩;rw [<-hr] at h⊢;have H:=af h;clear hr hv h;cases r with
 | none =>
  go_enter Tryz.func82,Tryz.ntmps82;go_wp2_with (go_at_call 137;refine (H.out _ ((ag.refl _).alloc _)).mono ?_;rintro e w5 ⟨he,hk5⟩;unfold dj at he;subst he;rw [aN (show (4:Nat)≠0 by decide)]);go_ret2;exact ⟨rfl,((ag.refl _).alloc _).trans hk5⟩
 | some l =>
  go_enter Tryz.func82,Tryz.ntmps82;go_wp2_with (go_at_call 137;refine (H.out _ ((ag.refl _).alloc _)).mono ?_;rintro e w5 ⟨⟨v5,rfl,ho5⟩,hk5⟩);go_ret2;exact ⟨⟨_,rfl,ho5.mono (Nat.zero_le _)⟩,((ag.refl _).alloc _).trans hk5⟩
theorem yz (k:Int) (ua:Option Addr) (un uc:Nat) (v:Value) (fams:List (List Nat)) (w:World) (hv:eP w v fams) :
  Calls Tryz.prog 82 #[.agg #[.int .i64 2,.int .i64 k,.slice ua un uc],v] w fun e w'=>dj w' 0 e (bO bK [] fams)/\ag w w':=by
 have h:∀ W,ag w W->Calls Tryz.prog 138 #[v] W fun e w'=>dj w' W.heap.size e (bO bK [] fams)/\ag W w':=fun W hk=>AP v fams W (hv.kept hk)
 obtain ⟨r,hr⟩:∃ r,r=bO bK [] fams:=⟨_,rfl⟩;rw [<-hr] at h⊢;have H:=af h;clear hr hv h;cases r with
 | none =>
  go_enter Tryz.func82,Tryz.ntmps82;go_wp2_with (go_at_call 138;refine (H.out _ ((ag.refl _).alloc _)).mono ?_;rintro e w5 ⟨he,hk5⟩;unfold dj at he;subst he;rw [aN (show (4:Nat)≠0 by decide)]);go_ret2;exact ⟨rfl,((ag.refl _).alloc _).trans hk5⟩
 | some l =>
  go_enter Tryz.func82,Tryz.ntmps82;go_wp2_with (go_at_call 138;refine (H.out _ ((ag.refl _).alloc _)).mono ?_;rintro e w5 ⟨⟨v5,rfl,ho5⟩,hk5⟩);go_ret2;exact ⟨⟨_,rfl,ho5.mono (Nat.zero_le _)⟩,((ag.refl _).alloc _).trans hk5⟩
theorem uV (k:Nat) (ua:Option Addr) (un uc:Nat) (v:Value) (fams:List (List Nat)) (w:World) (hv:eP w v fams) (h1:1<=k) (h2:k<=fams.length) (hl:fams.length<=900) :
  Calls Tryz.prog 82 #[.agg #[.int .i64 4,.int .i64 k,.slice ua un uc],v] w fun e w'=>dj w' 0 e (ff fams (fams.length - k+1))/\ag w w':=by
 obtain ⟨m,hm⟩:∃ m,m=fams.length - k+1:=⟨_,rfl⟩;have h:∀ W,ag w W->Calls Tryz.prog 139 #[v,.int .i64 m] W fun e w'=>dj w' 0 e (ff fams m)/\ag W w':=fun W hk=>yE v fams m W (hv.kept hk) (by omega) (by omega)
 rw [<-hm];obtain ⟨r,hr⟩:∃ r,r=ff fams m:=⟨_,rfl⟩;rw [<-hr] at h⊢;obtain ⟨va,vc,rfl,_⟩:=hv;obtain ⟨n,hn⟩:∃ n,n=fams.length:=⟨_,rfl⟩;rw [<-hn] at h hm h2 hl⊢;have hm9:(n:Int) - (k:Int)+1=(m:Int):=by omega
 have HM:=af hm9;have H:Hid (∀ W,ag w W->Calls Tryz.prog 139 #[.slice va n vc,.int .i64 ((n:Int) - (k:Int)+1)] W fun e w'=>dj w' 0 e r/\ag W w'):=af (by rw [hm9];exact h);clear hr h hm hm9 hn;cases r with
 | none =>
  go_enter Tryz.func82,Tryz.ntmps82;go_wp2_with (go_at_call 139;refine (H.out _ ((ag.refl _).alloc _)).mono ?_;rintro e w5 ⟨he,hk5⟩;unfold dj at he;subst he;rw [aN (show (4:Nat)≠0 by decide)]);go_ret2;exact ⟨rfl,((ag.refl _).alloc _).trans hk5⟩
 | some l =>
  go_enter Tryz.func82,Tryz.ntmps82;go_wp2_with (go_at_call 139;refine (H.out _ ((ag.refl _).alloc _)).mono ?_;rintro e w5 ⟨⟨v5,rfl,ho5⟩,hk5⟩);go_ret2;exact ⟨⟨_,rfl,ho5⟩,((ag.refl _).alloc _).trans hk5⟩
theorem yA (kind k:Int) (ua:Option Addr) (un uc:Nat) (v:Value) (fams:List (List Nat)) (w:World) (hv:eP w v fams) (h0:kind=0->k=0\/k=1) (h4:kind=4->1<=k/\k<=fams.length) (hl:fams.length<=900)
  (hk:kind=0\/kind=2\/kind=3\/kind=4) :
  Calls Tryz.prog 82 #[.agg #[.int .i64 kind,.int .i64 k,.slice ua un uc],v] w fun e w'=>dj w' 0 e (cz kind k fams)/\ag w w':=by
 rcases hk with rfl | rfl | rfl | rfl
 ·exact te k (h0 rfl) ua un uc v fams w
 ·rw [show cz 2 k fams=bO bK [] fams by unfold cz;rw [if_neg (by decide),if_pos rfl]];exact yz k ua un uc v fams w hv
 ·rw [show cz 3 k fams=bO aM [0] fams by unfold cz;rw [if_neg (by decide),if_neg (by decide),if_pos rfl]];exact A_ k ua un uc v fams w hv
 ·obtain ⟨kk,hkk⟩:=Int.eq_ofNat_of_zero_le (show 0<=k by have:=h4 rfl;omega);subst hkk;have h5:=h4 rfl;rw [show cz 4 (kk:Int) fams=ff fams (fams.length - kk+1) by unfold cz;rw [if_neg (by decide),if_neg (by decide),if_neg (by decide)];rfl];exact uV kk ua un uc v fams w hv (by omega) (by omega) hl
def fd (V T:Nat) (nodes:List Nd):Option (List Nat):=(fG V (aV V (aR V T nodes) nodes nodes.length)).map fun l=>l.getD (nC V (aR V T nodes) (T:Int)).toNat []
theorem yg {ops:Array Oper} {rest:List Oper} {o:Oper} {a:Act} {Q:Exit->Act->World->Prop} {w:World} (hg:o.guard=none) (l c:Operand)
  (hop:o.op=Op.makeSlice 104 l c) (m:Nat) (hl:a.eval l=.int .i64 0) (hc:a.eval c=.int .i64 m) (hb:m<=1000000)
  (hK:∀ w',OwnFams w' w.heap.size (.slice (some ⟨w.heap.size,0,none⟩) 0 m) []->ag w w'->wpList Tryz.prog ops Q rest (a.put o.dst (.slice (some ⟨w.heap.size,0,none⟩) 0 m)) w'):wpList Tryz.prog ops Q (o :: rest) a w:=by
 obtain ⟨i0,hi0,hz0,hz1,hz2⟩:=info_parts mw;refine wpList_plain hg fun K hK'=>?_
 have hrun:=run_make (P:=Tryz.prog) w 104 22 i0 _ Tryz.underlying104 hi0 hz0 .i64 .i64 0 m (by omega) (by omega) (by rw [hz2];omega) (by omega);simp only [Int.toNat_natCast] at hrun;obtain ⟨w',hw'⟩:∃ w',w'=w.alloc (.cells (madeCells (Value.slice none 0 0).cells (m*i0.size)) 22):=⟨_,rfl⟩;rw [<-hw'] at hrun;unfold Oper.wp;simp [execOp,hop,hl,hc,hrun,Result.andThen];subst hw';refine hK' _ _ (hK _ ?_ ((ag.refl _).alloc _));refine ⟨[],rfl,⟨by simp,.inr ⟨w.heap.size,m,_,by simp,Nat.le_refl _,heap_alloc_new w _,by simp,by unfold maxLen;omega,by rw [size_madeCells,hz1],by simp⟩⟩,by simp,fun i h=>by simp at h⟩
theorem yy (v:Value) (f:Fm) (V T:Nat) (w:World) (hv:bp w v f.nodes) (hok:Ok f V T) (hck:fJ f=0) :
  Calls Tryz.prog 80 #[.agg #[.int .i64 V,v,.int .i64 T]] w fun e w'=>e=.returned (aY (if fO V T f=true then 0 else 7))/\ag w w':=by
 have H:=af (fun W (hk:ag w W)=>mS v f V T W (hv.kept hk) hok hck);obtain ⟨a,n,c,rfl⟩:∃ a n c,v=.slice a n c:=by obtain ⟨a,c,h,_⟩:=hv;exact ⟨a,_,c,h⟩
 clear hv hok hck;cases hs:fO V T f with
 | true =>
  rw [hs] at H;rw [if_pos rfl];clear hs;go_enter Tryz.func80,Tryz.ntmps80;go_wp2_with (go_at_call 124;refine (H.out _ ((ag.refl _).alloc _)).mono ?_;rintro e w1 ⟨rfl,hk1⟩);go_ret;exact ⟨rfl,((ag.refl _).alloc _).trans hk1⟩
 | false =>
  rw [hs] at H;rw [if_neg (by simp)];clear hs;go_enter Tryz.func80,Tryz.ntmps80;go_wp2_with (go_at_call 124;refine (H.out _ ((ag.refl _).alloc _)).mono ?_;rintro e w1 ⟨rfl,hk1⟩);go_ret;exact ⟨rfl,((ag.refl _).alloc _).trans hk1⟩
theorem rS {V k:Nat} (h:k<V):(bw V).take (k+1)=(bw V).take k++[[2^k]]:=by
 rw [List.take_succ_eq_append_getElem (by simpa [bw] using h)];simp [bw]
theorem jv (V:Nat):(bw V).length=V:=by simp [bw]
theorem kR {V:Nat} {nodes:List Nd} {k:Nat} (hk:k<nodes.length):fG V (nodes.take (k+1))=(fG V (nodes.take k)).bind fun l=>fh l nodes[k]:=by
 unfold fG;rw [List.take_succ_eq_append_getElem hk,List.foldlM_append];simp [Option.bind_eq_bind]
theorem vO {V:Nat} {nodes:List Nd} {k:Nat} (h:fG V (nodes.take k)=none):fG V nodes=none:=by
 unfold fG at *;rw [<-List.take_append_drop k nodes,List.foldlM_append,h];rfl
theorem rV {l r:List (List Nat)} {x:Nd} (h:fh l x=some r):r.length=l.length+1:=by
 unfold fh at h;obtain ⟨u,_,rfl⟩:=Option.map_eq_some_iff.1 h;simp
theorem zf {V:Nat} {nodes:List Nd}:∀ k,k<=nodes.length->∀ l,fG V (nodes.take k)=some l->l.length=V+k:=by
 intro k;induction k with
 | zero=>intro _ l h;cases h;rw [jv];rfl
 | succ k ih =>
  intro hk l h;rw [kR (by omega)] at h;obtain ⟨u,hu,h⟩:=Option.bind_eq_some_iff.1 h;rw [rV h,ih (by omega) u hu];omega
theorem tJ {V:Nat} {nodes:List Nd}:∀ k,k<=nodes.length->∀ l,fG V (nodes.take k)=some l->∀ x∈l,x.length<=1024:=by
 intro k;induction k with
 | zero =>
  intro _ l h x hx;cases h;unfold bw at hx;obtain ⟨i,_,rfl⟩:=List.mem_map.1 hx;simp
 | succ k ih =>
  intro hk l h x hx;rw [kR (by omega)] at h;obtain ⟨u,hu,h⟩:=Option.bind_eq_some_iff.1 h;unfold fh at h;obtain ⟨y,hy,rfl⟩:=Option.map_eq_some_iff.1 h;rcases List.mem_append.1 hx with hx | hx
  ·exact ih (by omega) u hu x hx
  ·rw [List.mem_singleton] at hx;rw [hx];exact (ni hy).2
structure Ew (V:Nat) (nodes:List Nd) (top:Int):Prop where
 v24:V<=24
 n128:nodes.length<=128
 top:0<=top/\top<(V:Int)+nodes.length
 args:∀ i (h:i<nodes.length),∀ a∈nodes[i].args,0<=a/\a<(V:Int)+i
 argl:∀ i (h:i<nodes.length),nodes[i].args.length<=16
 kind:∀ i (h:i<nodes.length),nodes[i].kind=0\/nodes[i].kind=2\/nodes[i].kind=3\/nodes[i].kind=4
 zero:∀ i (h:i<nodes.length),nodes[i].kind=0->nodes[i].k=0\/nodes[i].k=1
 vote:∀ i (h:i<nodes.length),nodes[i].kind=4->1<=nodes[i].k/\nodes[i].k<=nodes[i].args.length
theorem uW (v:Value) (f:Fm) (V T:Nat) (w:World) (hv:bp w v f.nodes) (hok:Ok f V T) (hck:fJ f=0) (hs:fO V T f=true) (ht:Ew V (aV V (aR V T f.nodes) f.nodes f.nodes.length) (nC V (aR V T f.nodes) (T:Int))) :
  Calls Tryz.prog 36 #[.agg #[.int .i64 V,v,.int .i64 T]] w fun e w'=>dj w' 0 e (fd V T f.nodes)/\ag w w':=by
 have HCH:Hid (∀ W,ag w W->Calls Tryz.prog 80 #[.agg #[.int .i64 V,v,.int .i64 T]] W fun e w'=>e=.returned .nilIface/\ag W w'):=af fun W hk=>by
  have h:=yy v f V T W (hv.kept hk) hok hck;rw [hs,if_pos rfl,aW] at h;exact h
 have HTR:=af (fun W (hk:ag w W)=>zg v f V T W (hv.kept hk) hok hck);obtain ⟨r,hr⟩:∃ r,r=fd V T f.nodes:=⟨_,rfl⟩;rw [<-hr];unfold fd at hr;obtain ⟨nds,hnds⟩:∃ nds,nds=aV V (aR V T f.nodes) f.nodes f.nodes.length:=⟨_,rfl⟩;obtain ⟨top,htop⟩:∃ top,top=nC V (aR V T f.nodes) (T:Int):=⟨_,rfl⟩;rw [<-hnds,<-htop] at hr HTR ht;obtain ⟨T2,rfl⟩:=Int.eq_ofNat_of_zero_le ht.top.1;have HR:=af hr;have HT:=af ht;obtain ⟨va,vn,vc,rfl⟩:∃ a n c,v=.slice a n c:=by obtain ⟨a,c,h,_⟩:=hv;exact ⟨a,_,c,h⟩
 obtain ⟨m,hm⟩:∃ m,m=nds.length:=⟨_,rfl⟩;have HM:=af hm;have hV24:=ht.v24;have hm128:m<=128:=by rw [hm];exact ht.n128
 have hTm:T2<V+m:=by have:=ht.top.2;omega
 obtain ⟨w1,hw1⟩:∃ w1,w1=w.alloc (.cells #[.int .i64 V,.slice va vn vc,.int .i64 T] 41):=⟨_,rfl⟩;have hr1:=aj.made w #[.int .i64 V,.slice va vn vc,.int .i64 T] 41;rw [<-hw1] at hr1;have HR1:=af hr1;have HK1:Hid (ag w w1):=af (by rw [hw1];exact (ag.refl w).alloc _);have HW1:=af hw1;clear hv hok hck hs ht hr hnds htop hm hw1 hr1;go_enter Tryz.func36,Tryz.ntmps36;go_wp2_with fail;rw [<-HW1.out];refine (HCH.out _ HK1.out).mono ?_;rintro e w2 ⟨rfl,hk2⟩;have HK2:=af (HK1.out.trans hk2);have b0:=(HR1.out.kept hk2).cell (i:=0) (by simp);have b1:=(HR1.out.kept hk2).cell (i:=1) (by simp);have b2:=(HR1.out.kept hk2).cell (i:=2) (by simp);simp only [List.getElem_cons_succ,List.getElem_cons_zero] at b0 b1 b2;clear hk2;go_wp2_with fail;refine (HTR.out _ HK2.out).mono ?_;rintro e w3 ⟨tv,rfl,hnd,hk3⟩;have HK3:=af (HK2.out.trans hk3);obtain ⟨ta,tc,rfl⟩:=hnd.slice;rw [<-HM.out] at hnd⊢;obtain ⟨_,_,etv,_,_,hx⟩:=hnd.at
 have HX:Hid (∀ i (h:i<nds.length),∃ b o,ta=some ⟨b,o,none⟩/\∃ u,w3.cell? ⟨b,o+i*3,none⟩=some (.int .i64 nds[i].kind)/\w3.cell? ⟨b,o+i*3+1,none⟩=some (.int .i64 nds[i].k)/\w3.cell? ⟨b,o+i*3+2,none⟩=some u/\am w3 u nds[i].args):=af (by
  cases etv;intro i hi;obtain ⟨b,o,h1,u,h2,h3,h4,h5⟩:=hx i hi;exact ⟨b,o,h1,u,h2,h3,h4,h5⟩)
 clear hnd hx etv b0 b1 b2;obtain ⟨w4,hw4⟩:∃ w4,w4=w3.alloc (.cells #[.int .i64 V,.slice ta m tc,.int .i64 T2] 41):=⟨_,rfl⟩;have hr4:=aj.made w3 #[.int .i64 V,.slice ta m tc,.int .i64 T2] 41;rw [<-hw4] at hr4;have HR4:=af hr4;have HK34:Hid (ag w3 w4):=af (by rw [hw4];exact (ag.refl w3).alloc _);have HK4:=af (HK3.out.trans HK34.out);have HW4:=af hw4;have b0:=hr4.cell (i:=0) (by simp);have b1:=hr4.cell (i:=1) (by simp);simp only [List.getElem_cons_succ,List.getElem_cons_zero] at b0 b1;clear hw4 hr4 hk3;go_wp2_with (rw [<-HW4.out];at_make;refine yg rfl _ _ rfl (V+m) rfl (by show Value.int .i64 ((V:Int)+m)=.int .i64 ((V+m:Nat):Int);rw [Int.natCast_add]) (by omega) ?_;intro w5 ho5 hk5;have HO5:=af ho5;have HK45:=af hk5;have c0:=hk5.cell b0;clear ho5 hk5);go_loopg [7,38] V (fun kx s7 s38 wr=>∃ k:Nat,k<=V/\s38=.int .i64 k/\V - k<=kx/\Hid (OwnFams wr w4.heap.size s7 ((bw V).take k))/\Hid (ag w4 wr))
 case atStart=>exact ⟨0,Nat.zero_le _,rfl,by omega,HO5,HK45⟩
 case round =>
  obtain ⟨k,hk,rfl,hkx,HO,HKr⟩:=hrel;by_cases hlt:k<V
  ·have hkV:(k:Int)<(V:Int):=by omega
   have HST:=af (rS hlt);have HSL:Hid (((bw V).take k).length<=24):=af (by rw [List.length_take,jv];omega);have hz:=HKr.out.size;go_wp2_with (at_builtin;refine qV rfl _ _ rfl w4.heap.size _ ((bw V).take k) rfl (HO.out.kept (((ag.refl _).alloc _).alloc _)) _ _ [2^k] rfl (by simp) ((aF.shl wr k (by omega)).kept ((ag.refl _).alloc _)) (by have:=HSL.out;omega) (by simp;omega) ?_;intro nv' w7 hown7 hg7 hb7;have O7:=af hown7;have HK7:=af (((HKr.out.alloc _).alloc _).app (hb7.mono (by simp)));clear hown7 hg7 hb7);go_roundg (V - (k+1))
   case measure=>omega
   case rel=>exact ⟨k+1,by omega,by go_num,Nat.le_refl _,af (by rw [HST.out];exact O7.out),HK7⟩
  ·have hkV:¬ (k:Int)<(V:Int):=by omega
   have HO2:Hid (OwnFams wr w4.heap.size u7 (bw V)):=af (by
    have h:=HO.out
    rwa [List.take_of_length_le (by rw [jv];omega)] at h)
   have d1:=HKr.out.cell b1;obtain ⟨w6,rfl⟩:∃ w6:World,w6=wr:=⟨_,rfl⟩;clear HO;go_wp2_with fail;go_loopg [7,51] m (fun kx s7 s51 wq=>∃ (j:Nat) (l:List (List Nat)),j<=m/\s51=.int .i64 j/\m - j<=kx/\Hid (fG V (nds.take j)=some l)/\Hid (OwnFams wq w4.heap.size s7 l)/\Hid (ag w4 wq))
   case atStart=>exact ⟨0,bw V,Nat.zero_le _,rfl,by omega,af rfl,HO2,HKr⟩
   case round =>
    obtain ⟨j,l,hj,rfl,hjx,HL,HOL,HKq⟩:=hrel;have hll:=zf j (by have:=HM.out;omega) l HL.out;have HLL:=af hll;clear hll;by_cases hjm:j<m
    ·have hjn:(j:Int)<(m:Int):=by omega
     have hjl:j<nds.length:=by have:=HM.out;omega
     obtain ⟨b,o,rfl,u,hc1,hc2,hc3,hI⟩:=HX.out j hjl;have hK3q:=HK34.out.trans HKq.out;have hrange:=eZ (hK3q.cell hc1) (hK3q.cell hc2) (hK3q.cell hc3);have hI2:=hI.kept hK3q;obtain ⟨ax,cx,rfl,_,hlx,hcx⟩:=hI2;have hst:=kR (V:=V) hjl;rw [HL.out] at hst;simp only [Option.bind_some] at hst;have hargs:=HT.out.args j hjl;have hargl:=HT.out.argl j hjl;have hkind:=HT.out.kind j hjl;have hzero:=HT.out.zero j hjl;have hvote:=HT.out.vote j hjl;obtain ⟨x,hxx⟩:∃ x,x=nds[j]:=⟨_,rfl⟩;rw [<-hxx] at hrange hcx hlx hst hargs hargl hkind hzero hvote;obtain ⟨kd,kk,args⟩:=x;simp only at hrange hcx hlx hst hargs hargl hkind hzero hvote;obtain ⟨na,hna⟩:∃ na,na=args.length:=⟨_,rfl⟩;rw [<-hna] at hlx hrange hargl;have HNA:=af hna;have HRG:=af hrange;have HCX:=af hcx;have HST:=af hst;have HAR:=af hargs;have HKD:=af hkind;have HZE:=af hzero;have HVO:=af hvote;obtain ⟨w7,hw7⟩:∃ w7,w7=wr.alloc (.cells #[.int .i64 kd,.int .i64 kk,.slice ax na cx] 106):=⟨_,rfl⟩;have hr7:=aj.made wr #[.int .i64 kd,.int .i64 kk,.slice ax na cx] 106;rw [<-hw7] at hr7;have HK67:Hid (ag wr w7):=af (by rw [hw7];exact (ag.refl wr).alloc _);have HK7:=af (HKq.out.trans HK67.out);have HR7:=af hr7;have HW7:=af hw7;have e2:=hr7.cell (i:=2) (by simp);simp only [List.getElem_cons_succ,List.getElem_cons_zero] at e2
     clear hc1 hc2 hc3 hI hrange hcx hst hargs hkind hzero hvote hxx hna hw7 hr7 hK3q;go_wp2_with (with_reducible refine wpList_load_mid rfl 106 _ rfl b (o+j*3) rfl _ _ HRG.out Tryz.underlying106 rfl (by kernel_rfl) ?_);rw [<-HW7.out];obtain ⟨wo,rfl⟩:∃ wo:World,wo=wr:=⟨_,rfl⟩;go_loopg [11,58] na (fun px s11 s58 wi=>∃ (p:Nat) (acc:List (List Nat)),p<=na/\s58=.int .i64 p/\na - p<=px/\Hid (acc=(args.take p).map fun a=>l.getD a.toNat [])/\Hid (OwnFams wi w7.heap.size s11 acc)/\Hid (ag w7 wi))
     case atStart=>exact ⟨0,[],Nat.zero_le _,rfl,by omega,af rfl,af (OwnFams.nil _ _),af (ag.refl _)⟩
     case round =>
      obtain ⟨p,acc,hp,rfl,hpx,HA,HAC,HKp⟩:=hrel;have HKop:=af (HK67.out.trans HKp.out);by_cases hpn:p<na
      ·have hpl:p<args.length:=by have:=HNA.out;omega
       have hpi:(p:Int)<(na:Int):=by omega
       obtain ⟨b2,o2,rfl,hc0⟩:=HCX.out p hpl;have hcell:=HKop.out.cell hc0;obtain ⟨y,hy⟩:∃ y,y=args[p]:=⟨_,rfl⟩;have hy2:=HAR.out args[p] (List.getElem_mem _);rw [<-hy] at hcell hy2;obtain ⟨Y,hY⟩:=Int.eq_ofNat_of_zero_le hy2.1;subst hY;have hYl:Y<l.length:=by rw [HLL.out];omega
       have hstp:((args.take (p+1)).map fun a=>l.getD a.toNat [])=acc++[l[Y]'hYl]:=by
        rw [List.take_succ_eq_append_getElem hpl,List.map_append,<-HA.out,<-hy];simp [List.getD_eq_getElem?_getD,hYl]
       have HSP:=af hstp.symm;obtain ⟨g,cap,he,hBg,hgl,hcap⟩:=HOL.out.shape (by intro e;rw [e] at hYl;simp at hYl);subst he;obtain ⟨uz,hcz0,huz0⟩:=HOL.out.cell Y hYl;have hcz:=HKop.out.cell hcz0;have huz:=huz0.kept HKop.out;obtain ⟨za,zn,zc,rfl⟩:=huz.1.ints.shape;have HUZ:=af huz;have hY0:(0:Int)<=(Y:Int):=by omega
       have hYi:(Y:Int)<(l.length:Int):=by omega
       have hacl:acc.length<=16:=by rw [HA.out,List.length_map,List.length_take];omega
       have HACL:=af hacl;have hz7:=HKp.out.size;clear hc0 hy hstp huz hcz0 huz0 hBg hgl hcap hacl;go_wp2_with (at_builtin;refine qV rfl _ _ rfl w7.heap.size _ acc rfl (HAC.out.kept ((ag.refl _).alloc _)) _ _ (l[Y]'hYl) rfl (by simp) (HUZ.out.kept ((ag.refl _).alloc _)) (by have:=HACL.out;omega) (by simp;omega) ?_;intro nv' w8 hown8 hg8 hb8;have O8:=af hown8;have HK8:=af ((HKp.out.alloc _).app (hb8.mono (by simp)));clear hown8 hg8 hb8);go_roundg (na - (p+1))
       case measure=>omega
       case rel=>exact ⟨p+1,_,by omega,by go_num,Nat.le_refl _,HSP,O8,HK8⟩
      ·have hpi:¬ (p:Int)<(na:Int):=by omega
       have hfull:acc=args.map fun a=>l.getD a.toNat []:=by rw [HA.out,List.take_of_length_le (by have:=HNA.out;omega)]
       have hlen:acc.length=args.length:=by rw [hfull];simp
       have hcall:∀ W,ag wr W->Calls Tryz.prog 82 #[.agg #[.int .i64 kd,.int .i64 kk,.slice ax na cx],u11] W fun e w'=>dj w' 0 e (cz kd kk acc)/\ag W w':=fun W hkw2=>yA kd kk ax na cx u11 acc W (HAC.out.at.kept hkw2) HZE.out (fun h=>by rw [hlen];exact HVO.out h) (by rw [hlen,<-HNA.out];omega) HKD.out
       have hst2:fG V (nds.take (j+1))=(cz kd kk acc).map fun r=>l++[r]:=by
        rw [HST.out];unfold fh;rw [<-hfull]
       have HCL:=af hcall;have HST2:=af hst2;have hnb:=HR7.out.kept HKp.out;have g0:=hnb.cell (i:=0) (by simp);have g1:=hnb.cell (i:=1) (by simp);have g2:=hnb.cell (i:=2) (by simp);simp only [List.getElem_cons_succ,List.getElem_cons_zero] at g0 g1 g2;have HKqq:=af (HKq.out.trans HKop.out);obtain ⟨z,hz⟩:∃ z,z=cz kd kk acc:=⟨_,rfl⟩;rw [<-hz] at HCL HST2;clear hfull hlen hcall hst2 hnb hz;cases z with
       | none =>
        have HRN:Hid (r=none):=af (by
         rw [HR.out,vO HST2.out];rfl)
        go_wp2_with fail;refine (HCL.out _ (ag.refl _)).mono ?_;rintro e w8 ⟨he,hk8⟩;unfold dj at he;subst he;have HK8:=af (HK4.out.trans (HKqq.out.trans hk8));clear hk8 g0 g1 g2;rw [aN (show (4:Nat)≠0 by decide)];go_wp2;go_ret2;exact ⟨by rw [HRN.out];rfl,HK8.out⟩
       | some y =>
        go_wp2_with fail;refine (HCL.out _ (ag.refl _)).mono ?_;rintro e w8 ⟨⟨v8,rfl,ho8⟩,hk8⟩;have HK8:=af (HKqq.out.trans hk8);have HOL8:=af (HOL.out.kept (HKop.out.trans hk8));have HO8:=af ho8;have hz8:=HK8.out.size;have hll9:l.length<1000000:=by rw [HLL.out];omega
        obtain ⟨za,zn,zc,rfl⟩:=ho8.1.ints.shape;clear hk8 g0 g1 g2 ho8;go_wp2_with (at_builtin;refine qV rfl _ _ rfl w4.heap.size _ l rfl (HOL8.out.kept ((ag.refl _).alloc _)) _ _ y rfl (by simp) (HO8.out.kept ((ag.refl _).alloc _)) hll9 (by simp;omega) ?_;intro nv' w9 hown9 hg9 hb9;have O9:=af hown9;have HK9:=af ((HK8.out.alloc _).app (hb9.mono (by simp)));clear hown9 hg9 hb9);go_roundg (m - (j+1))
        case measure=>omega
        case rel=>exact ⟨j+1,_,by omega,by go_num,Nat.le_refl _,HST2,O9,HK9⟩
    ·have hjn:¬ (j:Int)<(m:Int):=by omega
     have hT2l:T2<l.length:=by rw [HLL.out];omega
     have HRS:Hid (r=some (l.getD T2 [])):=af (by
      have h:=HL.out;rw [List.take_of_length_le (by have:=HM.out;omega)] at h;rw [HR.out,h];rfl)
     obtain ⟨g,cap,he,hBg,hgl,hcap⟩:=HOL.out.shape (by intro e;rw [e] at hT2l;simp at hT2l);subst he;obtain ⟨uz,hcz,huz⟩:=HOL.out.cell T2 hT2l;have hf2:=(HR4.out.kept HKq.out).cell (i:=2) (by simp);simp only [List.getElem_cons_succ,List.getElem_cons_zero] at hf2;have HCN:Hid (Calls Tryz.prog 83 #[uz] wr fun e w'=>(∃ v',e=.returned v'/\OwnInts w' wr.heap.size v' (aL l[T2]))/\ag wr w'):=af ((qg uz (aL l[T2]) wr huz.1.ints (by have:=tJ j (by have:=HM.out;omega) l HL.out l[T2] (List.getElem_mem _);simp [aL];omega)).mono fun e w' ⟨v',h1,h2,h3⟩=>⟨⟨v',h1,h2⟩,h3⟩);have HMKZ:Hid (∀ x∈l[T2],Mk x):=af huz.2;have HGD:Hid (l.getD T2 []=l[T2]):=af (by simp [List.getD_eq_getElem?_getD,hT2l]);have h0:(0:Int)<=(T2:Int):=by omega
     have h1:(T2:Int)<(l.length:Int):=by omega
     have HKqw:=af (HK4.out.trans HKq.out);clear huz hBg hgl hcap;go_wp2_with fail;refine HCN.out.mono ?_;rintro e w8 ⟨⟨v8,rfl,ho8⟩,hk8⟩;have HK8:=af (HKqw.out.trans hk8);have HO8:=af ho8;clear hk8 ho8;go_wp2;go_ret2;exact ⟨by rw [HRS.out,HGD.out];exact ⟨_,rfl,HO8.out.mono (Nat.zero_le _),HMKZ.out⟩,HK8.out⟩
section
open Go.RowKit Go.ChangeShapes Go.WideShapes Go.ChangeAt Go.Joins Go.Deep
theorem lW (V s t:Nat) (nodes:List Nd) (h:∀ i,i<V->s.testBit i=t.testBit i):∀ k,bu V s nodes k=bu V t nodes k:=by
 intro k;induction k with
 | zero=>unfold bu;exact List.map_congr_left fun i hi=>h i (by simpa using hi)
 | succ k ih=>unfold bu;rw [ih]
end
def Fk (V:Nat) (c:Nat × Nat):Prop:=(∀ j,c.1.testBit j=true->j<V)/\∀ j,c.2.testBit j=true->j<V
theorem nT (r V:Nat):aZ (r % 2^V) r=true:=a_.2 fun i hi=>by
 rw [Nat.testBit_mod_two_pow] at hi;simp at hi;exact hi.2
theorem tL {V T:Nat} {f:Fm} (hok:Ok f V T) (hs:fO V T f=true) {p:List Nat × List Nat} (h:ki V T f.nodes=some p):∀ r∈p.1,r<2^V:=by
 obtain ⟨h1,_,h3⟩:=mT hok hs h;intro r hr;have hv:=(h3 r).1 ⟨r,hr,df r⟩;have he:fH V (r % 2^V) f.nodes=fH V r f.nodes:=lW V _ _ f.nodes (fun i hi=>by rw [Nat.testBit_mod_two_pow];simp [hi]) _;rw [<-he] at hv;obtain ⟨t,ht,hsub⟩:=(h3 _).2 hv
 have htr:t=r:=by
  have hr2:=hr;rw [<-h1.1] at hr2;exact ((bS p.1 r).1 hr2).2 t ht (eI hsub (nT r V))
 subst htr;have:=gp hsub (nT t V);rw [this];exact Nat.mod_lt _ (Nat.two_pow_pos V)
def FK (L:List (Int × Int)):Nat:=if 1024<L.length then 4 else wO L
theorem vf {w:World} {r1 r2 r3:Rw} {u1 v1 u2 v2 u3 v3:Value} (h1:WdsAt w u1 r1.num) (k1:WdsAt w v1 r1.den) (h2:WdsAt w u2 r2.num) (k2:WdsAt w v2 r2.den) (h3:WdsAt w u3 r3.num) (k3:WdsAt w v3 r3.den) :
  RatsAt (w.alloc (.cells #[.bool r1.neg,u1,v1,.bool r2.neg,u2,v2,.bool r3.neg,u3,v3] 29)) (.slice (some ⟨w.heap.size,0,none⟩) 3 3) [r1,r2,r3]:=by
 have hk:ag w (w.alloc (.cells #[.bool r1.neg,u1,v1,.bool r2.neg,u2,v2,.bool r3.neg,u3,v3] 29)):=(ag.refl _).alloc _;refine ⟨_,3,rfl,⟨by simp,fun h=>by cases h⟩,by simp,fun i hi=>?_⟩
 match i,hi with
 | 0,_ =>
  refine ⟨w.heap.size,0,u1,v1,rfl,fun j v hj=>?_,h1.kept hk,k1.kept hk⟩
  match j,hj with
  | 0,hj=>simp at hj;subst hj;simp
  | 1,hj=>simp at hj;subst hj;simp
  | 2,hj=>simp at hj;subst hj;simp
 | 1,_ =>
  refine ⟨w.heap.size,0,u2,v2,rfl,fun j v hj=>?_,h2.kept hk,k2.kept hk⟩
  match j,hj with
  | 0,hj=>simp at hj;subst hj;simp
  | 1,hj=>simp at hj;subst hj;simp
  | 2,hj=>simp at hj;subst hj;simp
 | 2,_ =>
  refine ⟨w.heap.size,0,u3,v3,rfl,fun j v hj=>?_,h3.kept hk,k3.kept hk⟩
  match j,hj with
  | 0,hj=>simp at hj;subst hj;simp
  | 1,hj=>simp at hj;subst hj;simp
  | 2,hj=>simp at hj;subst hj;simp
theorem Cu (w:World):am (w.alloc (.cells #[.int .i64 1,.int .i64 6] 3)) (.slice (some ⟨w.heap.size,0,none⟩) 2 2) [1,6] :=
 (aj.made w #[.int .i64 1,.int .i64 6] 3).ints (xs:=[1,6]) (c:=2) (by simp) (by simp)
def F_ (q0:Nat) (X:List Int) (V:Nat) (ps:List Rw):Nat × Rat :=
 if ps.length≠V then (11,0) else if cK ps=true then (3,0) else if q0≠0 then (q0,0) else if (Cn X).1≠0 then ((Cn X).1,0) else (0,Du ps (Cn X).2 (Cn X).2.length)
def Ge (ps:List Rw) (V T:Nat) (f:Fm) (k:Nat):Rat:=BF (fun s=>if (fH V s f.nodes).getD T false=true then FA (jp ps) s V else 0) k
theorem vQ {V:Nat} {mark:List Bool} {nodes:List Nd}:∀ k,k<=nodes.length->∀ i (h:i<(aV V mark nodes k).length),∃ j,∃ hj:j<nodes.length,j<k/\mark.getD (V+j) false=true/\fm V mark j=i/\(aV V mark nodes k)[i]=pw V mark nodes[j]:=by
 intro k;induction k with
 | zero=>intro _ i h;simp [aV] at h
 | succ k ih =>
  intro hk i h;by_cases hm:mark.getD (V+k) false=true
  ·have e:aV V mark nodes (k+1)=aV V mark nodes k++[pw V mark (nodes.getD k bz)]:=by rw [aV,if_pos hm]
   have hl:(aV V mark nodes k).length=fm V mark k:=gB V mark nodes k;by_cases hi:i<(aV V mark nodes k).length
   ·obtain ⟨j,hj,h1,h2,h3,h4⟩:=ih (by omega) i hi;refine ⟨j,hj,by omega,h2,h3,?_⟩;rw [<-h4];simp only [e];rw [List.getElem_append_left hi]
   ·have h5:i=(aV V mark nodes k).length:=by
     have:=congrArg List.length e;rw [List.length_append] at this;simp at this;omega
    refine ⟨k,by omega,by omega,hm,by omega,?_⟩;simp only [e];rw [List.getElem_append_right (by omega)];simp [List.getD_eq_getElem?_getD,show k<nodes.length by omega]
  ·have e:aV V mark nodes (k+1)=aV V mark nodes k:=by rw [aV,if_neg hm]
   have hi:i<(aV V mark nodes k).length:=by rw [e] at h;exact h
   obtain ⟨j,hj,h1,h2,h3,h4⟩:=ih (by omega) i hi;refine ⟨j,hj,by omega,h2,h3,?_⟩;rw [<-h4];simp only [e]
theorem Bk {V:Nat} {mark:List Bool} {a:Int} {j:Nat} (h0:0<=a) (h1:a<(V:Int)+j) (hm:mark.getD a.toNat false=true):0<=nC V mark a/\nC V mark a<(V:Int)+fm V mark j:=by
 unfold nC;by_cases h:a<V
 ·rw [if_pos h];omega
 ·rw [if_neg h];have h2:=wU V mark (i:=(a - V).toNat) (k:=j) (by omega) (by rw [show V+(a - (V:Int)).toNat=a.toNat by omega];exact hm);omega
theorem EO {V T:Nat} {f:Fm} (hok:Ok f V T) (hs:fO V T f=true):Ew V (aV V (aR V T f.nodes) f.nodes f.nodes.length) (nC V (aR V T f.nodes) (T:Int)):=by
 have hl:(aV V (aR V T f.nodes) f.nodes f.nodes.length).length=fm V (aR V T f.nodes) f.nodes.length:=gB _ _ _ _;have hcl:=cZ V T f hok;have hget:=vQ (V:=V) (mark:=aR V T f.nodes) (nodes:=f.nodes) f.nodes.length (Nat.le_refl _);refine ⟨hok.v24,?_,?_,fun i h a ha=>?_,fun i h=>?_,fun i h=>?_,fun i h hk=>?_,fun i h hk=>?_⟩
 ·rw [hl];have:=wT V (aR V T f.nodes) f.nodes.length;have:=hok.n128;omega
 ·rw [hl];exact Bk (by omega) (by have:=hok.tlt;omega) (by simpa using jB hok)
 ·obtain ⟨j,hj,h1,h2,h3,h4⟩:=hget i h;rw [h4] at ha;obtain ⟨b,hb,rfl⟩:=List.mem_map.1 ha;have h5:=hok.args j hj b hb;have h6:=Bk h5.1 h5.2 (hcl j hj h2 b hb);rw [h3] at h6;exact h6
 ·obtain ⟨j,hj,h1,h2,h3,h4⟩:=hget i h;rw [h4];show (f.nodes[j].args.map _).length<=16;rw [List.length_map];exact jA (hok.argc j hj)
 ·obtain ⟨j,hj,h1,h2,h3,h4⟩:=hget i h;rw [h4];exact jF hok hs j hj h2
 ·obtain ⟨j,hj,h1,h2,h3,h4⟩:=hget i h;rw [h4] at hk⊢;have h5:=hok.arity j hj;have hk2:f.nodes[j].kind=0:=hk;show f.nodes[j].k=0\/f.nodes[j].k=1;unfold jQ at h5;rw [if_pos hk2] at h5;split at h5
  ·rename_i h6;omega
  ·cases h5
 ·obtain ⟨j,hj,h1,h2,h3,h4⟩:=hget i h;rw [h4] at hk⊢;have h5:=hok.arity j hj;have hk2:f.nodes[j].kind=4:=hk;show 1<=f.nodes[j].k/\f.nodes[j].k<=((f.nodes[j].args.map (nC V (aR V T f.nodes))).length:Nat);rw [List.length_map];unfold jQ at h5;rw [if_neg (by omega),if_pos hk2] at h5;split at h5
  ·assumption
  ·cases h5
theorem qB {V T:Nat} {f:Fm} (hok:Ok f V T):fd V T f.nodes=(dd V (aR V T f.nodes) f.nodes f.nodes.length).map fun out=>if T<V then [2^T] else out.getD (T - V) []:=by
 unfold fd;rw [BN hok.args (cZ V T f hok) f.nodes.length (Nat.le_refl _)];cases dd V (aR V T f.nodes) f.nodes f.nodes.length with
 | none=>rfl
 | some out =>
  simp only [Option.map_some];congr 1;by_cases h:T<V
  ·rw [if_pos h,xg h,Int.toNat_natCast];exact nE h _
  ·rw [if_neg h];have e:((T:Nat):Int)=((V+(T - V):Nat):Int):=by omega
   rw [e,tp,Int.toNat_natCast,kq];exact tb (by rw [show V+(T - V)=T by omega];exact jB hok) _ (by have:=hok.tlt;omega)
theorem Cf {i s:Nat} (hi:i<24):up [2^i] (rf s) ↔ s.testBit i=false:=by
 unfold up;constructor
 ·rintro ⟨t,ht,h⟩;rw [List.mem_singleton] at ht;subst ht;have:=a_.1 h i (by simp);rw [fw s i hi] at this;simpa using this
 ·intro h;refine ⟨2^i,List.mem_singleton.2 rfl,a_.2 fun j hj=>?_⟩;rw [Nat.testBit_two_pow] at hj
  have:i=j:=by simpa using hj
  subst this;rw [fw s i hi,h];rfl
theorem uu {V:Nat} {mark:List Bool} {nodes:List Nd}:∀ k out,dd V mark nodes k=some out->∀ l∈out,Good l:=by
 intro k;induction k with
 | zero=>intro out h l hl;cases h;rw [List.eq_of_mem_replicate hl];exact jg
 | succ k ih =>
  intro out h l hl;obtain ⟨o,h1,h2⟩:=Option.bind_eq_some_iff.1 h;unfold dL at h2;split at h2
  ·obtain ⟨y,hy,rfl⟩:=Option.map_eq_some_iff.1 h2;rcases List.mem_or_eq_of_mem_set hl with h3 | rfl
   ·exact ih o h1 l h3
   ·exact ni hy
  ·cases h2;exact ih _ h1 l hl
theorem oW {V T:Nat} {f:Fm} (hok:Ok f V T) (hs:fO V T f=true) {l:List Nat} (h:fd V T f.nodes=some l):Good l/\∀ s,up l (rf s) ↔ (fH V s f.nodes).getD T false=false:=by
 rw [qB hok] at h;obtain ⟨out,ho,h1⟩:=Option.map_eq_some_iff.1 h;by_cases hT:T<V
 ·rw [if_pos hT] at h1;subst h1;refine ⟨jh _,fun s=>?_⟩;rw [Cf (by have:=hok.v24;omega)];unfold fH;rw [gW V s f.nodes f.nodes.length T hT]
 ·rw [if_neg hT] at h1;have hlen:=jm V (aR V T f.nodes) f.nodes f.nodes.length out ho;have hTl:T - V<out.length:=by rw [hlen];have:=hok.tlt;omega
  have e:out.getD (T - V) []=out[T - V]:=by simp [List.getD_eq_getElem?_getD,hTl]
  refine ⟨?_,fun s=>?_⟩
  ·rw [<-h1,e];exact uu _ out ho _ (List.getElem_mem _)
  ·rw [<-h1];have h2:=vW V T s f hok (aR V T f.nodes) (fun i hi hm=>jF hok hs i hi hm) (cZ V T f hok) f.nodes.length out (Nat.le_refl _) ho (T - V) (by have:=hok.tlt;omega) (by rw [show V+(T - V)=T by omega];exact jB hok);rw [show V+(T - V)=T by omega] at h2;exact h2
theorem zS {s:Nat} (h:s<16777216):rf (rf s)=s:=by
 apply Nat.eq_of_testBit_eq;intro i;by_cases hi:i<24
 ·rw [fw _ i hi,fw _ i hi];simp
 ·have h1:s.testBit i=false:=Nat.testBit_lt_two_pow (Nat.lt_of_lt_of_le h (Nat.pow_le_pow_right (n:=2) (by omega) (show 24<=i by omega)));have h2:∀ t,(rf t).testBit i=false:=fun t=>by unfold rf;rw [dA,og (by decide) (by omega)];rfl
  rw [h2,h1]
theorem rC {V T:Nat} {f:Fm} (hok:Ok f V T) (hs:fO V T f=true) {l:List Nat} (h:fd V T f.nodes=some l) (hm:∀ x∈l,Mk x):∀ r∈l,r<2^V:=by
 obtain ⟨h1,h3⟩:=oW hok hs h;intro r hr;have hr24:r<16777216:=by have:=hm r hr;unfold Mk at this;omega
 have hm24:r % 2^V<16777216:=Nat.lt_of_le_of_lt (Nat.mod_le _ _) hr24;have hv:=(h3 (rf r)).1 (by rw [zS hr24];exact ⟨r,hr,df r⟩)
 have he:fH V (rf (r % 2^V)) f.nodes=fH V (rf r) f.nodes:=lW V _ _ f.nodes (fun i hi=>by
  have h24:i<24:=by have:=hok.v24;omega
  rw [fw _ i h24,fw _ i h24,Nat.testBit_mod_two_pow];simp [hi]) _
 rw [<-he] at hv;obtain ⟨t,ht,hsub⟩:=(h3 _).2 hv;rw [zS hm24] at hsub
 have htr:t=r:=by
  have hr2:=hr;rw [<-h1.1] at hr2;exact ((bS l r).1 hr2).2 t ht (eI hsub (nT r V))
 subst htr;have:=gp hsub (nT t V);rw [this];exact Nat.mod_lt _ (Nat.two_pow_pos V)
def FF (w':World) (e:Ending) (r:Option (List Nat)):Prop :=
 match r with
 | some l=>∃ v,e=.returned (.tuple #[v,.int .i64 0])/\aF w' 0 v l
 | none=>e=.returned (.tuple #[.slice none 0 0,.int .i64 4])
def CM (r:Nat):List Nat:=(List.range 128).filter fun j=>r.testBit (24+j)
def EJ (la:List Nat) (k x:Nat):Nat:=if la[k]?=some x then k+1 else k
def Fz (la lb:List Nat) (k:Nat):Nat:=lb.foldl (EJ la) k
def Fx (L:List Nat) (i j:Nat):Bool:=decide (i≠j)&&(aZ (L.getD j 0) (L.getD i 0)&&(!aZ (L.getD i 0) (L.getD j 0)||decide (j<i)))
def DN (L:List Nat) (i:Nat):Bool:=(List.range L.length).all fun j=>!Fx L i j
def Bg (L:List Nat) (m:Nat):List Nat:=((List.range m).filter (DN L)).map fun i=>L.getD i 0
def Fe (L:List Nat):List Nat:=Bg L L.length
def Bf (V:Nat):List Int->Nat->Nat->Int->List Nat
 | [],k,r,_=>if k=0 then [r] else []
 | a :: l,k,r,room=>if k=0 then [r] else if l.length+1<k\/room<0 then [] else
   Bf V l (k - 1) (bo V r a) room++Bf V l k r (room - (Bf V l (k - 1) (bo V r a) room).length)
section
open Go.RowKit
variable {Z:Option Nat}
def Eu (Z:Option Nat) (w:World) (u:Value) (r:Nat):Prop:=OwnInts w 0 u (aL (CM r))/\∀ g,u.ownBlock=some g->Z≠some g
def zw (Z:Option Nat) (w:World) (B:Nat) (v:Value) (L:List Nat):Prop :=
 ∃ cells:List Value,w.ownsRow B 131 2 v L.length cells/\(L.length<=20000/\∀ c∈L,aI 152 c) /\
  ∀ i (h:i<L.length),∃ u,cells[i*2]?=some (.int .i64 (bZ L[i]))/\cells[i*2+1]?=some u/\Eu Z w u L[i]
end
section
open Go.RowKit
variable {Z:Option Nat}
def E' (L:List Nat) (i m:Nat):Bool:=(List.range m).all fun j=>!Fx L i j
end
section
open Go.RowKit
variable {Z:Option Nat}
def EZ (w':World) (e:Ending) (r:Option (List Nat × List Nat)):Prop :=
 match r with
 | some p=>∃ Z v1 v2 L,e=.returned (.tuple #[v1,v2,.int .i64 0])/\zw Z w' 0 v1 L/\L.Perm p.1/\OwnInts w' 0 v2 (aL p.2)
 | none=>e=.returned (.tuple #[.slice none 0 0,.slice none 0 0,.int .i64 4])
end
def ER (w':World) (e:Ending) (p:List Nat × List Nat):Prop:=∃ Z v1 v2 L,e=.returned (.tuple #[v1,v2,.int .i64 0])/\zw Z w' 0 v1 L/\L.Perm p.1/\OwnInts w' 0 v2 (aL p.2)
theorem EN (v:Value) (f:Fm) (V T:Nat) (hok:Ok f V T) (hck:fJ f=0) (hs:∃ a n c,v=.slice a n c) :
  (∃ q,((q=4/\fO V T f=true/\ki V T f.nodes=none)\/(q=7/\fO V T f=false))/\∀ W,bp W v f.nodes ->
   (Calls Tryz.prog 34 #[.agg #[.int .i64 V,v,.int .i64 T]] W fun e w'=>e=.returned (.tuple #[.slice none 0 0,aY q])/\ag W w')) ∨
  (∃ p,ki V T f.nodes=some p/\fO V T f=true/\∀ W,bp W v f.nodes ->
   (Calls Tryz.prog 34 #[.agg #[.int .i64 V,v,.int .i64 T]] W fun e w'=>(∃ v',e=.returned (.tuple #[v',.nilIface])/\am w' v' (aL p.1))/\ag W w')):=by
 have hfm:sx v f=.agg #[.int .i64 V,v,.int .i64 T]:=by unfold sx;rw [hok.vars,hok.top]
 cases hsy:fO V T f with
 | false =>
  have h7:∀ W,bp W v f.nodes->Calls Tryz.prog 77 #[sx v f] W fun e w'=>e=.returned (.tuple #[.slice none 0 0,.slice none 0 0,aY 7])/\ag W w':=fun W hW=>by
   rw [hfm]
   exact yT v V T W hs fun W' hk=>by
    have:=mS v f V T W' (hW.kept hk) hok hck;rw [hsy] at this;exact this
  refine .inl ⟨7,.inr ⟨rfl,rfl⟩,fun W hW=>?_⟩;have h1:=qO v f 7 (by omega) W hs (fun W' hk=>h7 W' (hW.kept hk));rw [hfm] at h1;exact h1
 | true =>
  cases hl:ki V T f.nodes with
  | none =>
   have h4:∀ W,bp W v f.nodes->Calls Tryz.prog 77 #[sx v f] W fun e w'=>e=.returned (.tuple #[.slice none 0 0,.slice none 0 0,aY 4])/\ag W w':=fun W hW=>by
    have:=Bt v f V T W hW hok hck hsy;rw [hl,<-hfm] at this;exact this
   refine .inl ⟨4,.inl ⟨rfl,rfl,rfl⟩,fun W hW=>?_⟩;have h1:=qO v f 4 (by omega) W hs (fun W' hk=>h4 W' (hW.kept hk));rw [hfm] at h1;exact h1
  | some p =>
   obtain ⟨hg,hm,_⟩:=mT hok hsy hl
   have h0:∀ W,bp W v f.nodes->Calls Tryz.prog 77 #[.agg #[.int .i64 V,v,.int .i64 T]] W fun e w'=>wl w' e p/\ag W w':=fun W hW=>by
    have:=Bt v f V T W hW hok hck hsy;rw [hl] at this;exact this
   exact .inr ⟨p,rfl,rfl,fun W hW=>(BM v V T p W hg hm hs fun W' hk=>h0 W' (hW.kept hk)).mono fun _ _ ⟨⟨v',h1,h3⟩,h4⟩=>⟨⟨v',h1,h3.1.ints⟩,h4⟩⟩
def Cg (ps:List Rw) (c:List Nat):Option (List Nat)->Nat × Rat × Rat
 | none=>(4,0,0)
 | some l=>(0,gb (aO (gQ ps) l) (aA (fQ ps) c),gJ (1 - aO (fQ ps) c) (1 - aA (gQ ps) l))
def tT (V T:Nat) (f:Fm) (ps:List Rw):Nat × Rat × Rat :=
 if ps.length≠V then (11,0,0) else if cK ps=true then (3,0,0) else if fO V T f=false then (7,0,0) else
  match ki V T f.nodes with
  | none=>(4,0,0)
  | some p=>Cg ps p.1 (fd V T f.nodes)
theorem SpanV.nought (w:World):SpanV w (.agg #[.bool false,.slice none 0 0,.slice none 0 0,.bool false,.slice none 0 0,.slice none 0 0]) ⟨false,[],[]⟩ ⟨false,[],[]⟩ :=
 ⟨_,_,_,_,rfl,WdsAt.nil w,WdsAt.nil w,WdsAt.nil w,WdsAt.nil w⟩
theorem qp {s V:Nat} {ps:List Rw} (hV:ps.length=V) (h24:V<=24) (h:s<2^V):s<16777216/\jE s<(ps.length:Int):=by
 have h1:s<2^24:=Nat.lt_of_lt_of_le h (Nat.pow_le_pow_right (by omega) h24);refine ⟨h1,?_⟩;have h2:Lib.bitLen s<=V:=Lib.bitLen_le s V (by omega) h;unfold jE;omega
theorem rj (v pv:Value) (f:Fm) (V T:Nat) (ps:List Rw) (w:World) (hv:bp w v f.nodes) (hok:Ok f V T) (hck:fJ f=0) (hp:RatsAt w pv ps) (h3:∀ r∈ps,r.Short 3) (h30:ps.length<=30) :
  Calls Tryz.prog 20 #[.agg #[.int .i64 V,v,.int .i64 T],pv] w fun e w'=>(∃ v',e=.returned (.tuple #[v',aY (tT V T f ps).1])/\SpanV w' v' (ai (tT V T f ps).2.1) (ai (tT V T f ps).2.2))/\ag w w':=by
 have HCF:Hid (∀ W,ag w W->Calls Tryz.prog 30 #[.agg #[.int .i64 V,v,.int .i64 T]] W fun e w'=>e=.returned .nilIface/\ag W w'):=af fun W hk=>by
  have h:=fU v f W (hv.kept hk) (by rw [hok.top];have:=hok.tlt;have:=hok.n128;have:=hok.v24;omega);rw [hck,aW] at h;unfold sx at h;rw [hok.vars,hok.top] at h;exact h
 have HBD:=af (fun W (h:ag w W)=>ql pv ps W (hp.kept h) (fun r hr=>⟨Nat.le_trans (h3 r hr).1 (by omega),Nat.le_trans (h3 r hr).2 (by omega)⟩));have hoks:=hp.ok;have HV:=af hv;have HP:=af hp;have HO:=af hok;have HCK:=af hck;have HS3:=af h3;have H30:=af h30;have HOKS:=af hoks;obtain ⟨va,vn,vc,rfl⟩:∃ a n c,v=.slice a n c:=by obtain ⟨a,c,h,_⟩:=hv;exact ⟨a,_,c,h⟩
 obtain ⟨pa,pc,rfl⟩:=hp.shape;obtain ⟨pn,hpn⟩:∃ pn,pn=ps.length:=⟨_,rfl⟩;obtain ⟨B,hB⟩:∃ B,B=tT V T f ps:=⟨_,rfl⟩;rw [<-hB];unfold tT at hB;rw [<-hpn] at HBD HP hB⊢;have HPN:=af hpn;have HB:=af hB;obtain ⟨w1,hw1⟩:∃ w1,w1=w.alloc (.cells #[.int .i64 V,.slice va vn vc,.int .i64 T] 41):=⟨_,rfl⟩;have hr1:=aj.made w #[.int .i64 V,.slice va vn vc,.int .i64 T] 41;rw [<-hw1] at hr1;have hs1:w1.heap.size=w.heap.size+1:=by rw [hw1];simp
 obtain ⟨w2,hw2⟩:∃ w2,w2=w1.alloc (.cells #[.bool false,.slice none 0 0,.slice none 0 0,.bool false,.slice none 0 0,.slice none 0 0] 44):=⟨_,rfl⟩;have HK12:Hid (ag w1 w2):=af (by rw [hw2];exact (ag.refl _).alloc _);have HK2:Hid (ag w w2):=af (by rw [hw2,hw1];exact ((ag.refl _).alloc _).alloc _);have HS2:Hid (SpnAt w2 (w.heap.size+1) ⟨false,[],[]⟩ ⟨false,[],[]⟩):=af (by rw [hw2,<-hs1];exact SpnAt.zero w1);have HR2:=af (hr1.kept HK12.out);have HW2:Hid (w2=(w.alloc (.cells #[.int .i64 V,.slice va vn vc,.int .i64 T] 41)).alloc (.cells #[.bool false,.slice none 0 0,.slice none 0 0,.bool false,.slice none 0 0,.slice none 0 0] 44)):=af (by rw [hw2,hw1]);clear hv hp hok hck h3 h30 hoks hpn hB hw1 hw2 hr1 hs1;go_enter Tryz.func20,Tryz.ntmps20;go_wp2_with fail;rw [<-HW2.out];refine (HCF.out _ HK2.out).mono ?_;rintro e w3 ⟨rfl,hk3⟩;have HK3:=af (HK2.out.trans hk3);have HS3':=af (HS2.out.kept hk3);have HR3:=af (HR2.out.kept hk3);have b0:=HR3.out.cell (i:=0) (by simp);have b1:=HR3.out.cell (i:=1) (by simp);have b2:=HR3.out.cell (i:=2) (by simp);simp only [List.getElem_cons_succ,List.getElem_cons_zero] at b0 b1 b2;have hl3:=HR3.out.lt;clear hk3;by_cases hlen:pn=V
 ·have HLN:=af hlen;have hlb:((pn:Int) != (V:Int))=false:=by simp [hlen]
  clear hlen;cases hbad:cK ps with
  | true =>
   rw [hbad] at HBD;have HBA:=af hbad;clear hbad;go_wp2_with fail;refine (HBD.out _ HK3.out).mono ?_;rintro e w4 ⟨rfl,hk4⟩;have HK4:=af (HK3.out.trans hk4);have HS4:=af (HS3'.out.kept hk4);clear hk4 b0 b1 b2;have HE:Hid (B=(3,0,0)):=af (by have h:=HB.out;rw [if_neg (by rw [HLN.out];simp),HBA.out,if_pos rfl] at h;exact h);obtain ⟨n1,l1,m1,n2,l2,m2,a1,c1,a2,c2,a3,c3,a4,c4,w9,he,hw9,⟨⟨z0,p0⟩,⟨z1,p1⟩,⟨z2,p2⟩,⟨z3,p3⟩,⟨z4,p4⟩,⟨z5,p5⟩⟩,⟨f0,f1,f2,f3,f4,f5⟩,hl9,Y,HSV,_,_,HKP⟩:=HS4.out.put (SpanV.nought _);have HKE:=af (HKP.out _ HK4.out (by first | exact Nat.le_refl _ | omega));simp only [Value.agg.injEq,Array.mk.injEq,List.cons.injEq,Value.bool.injEq,Value.slice.injEq,and_true] at he;obtain ⟨rfl,⟨rfl,rfl,rfl⟩,⟨rfl,rfl,rfl⟩,rfl,⟨rfl,rfl,rfl⟩,rfl,rfl,rfl⟩:=he;rw [hw9] at Y HSV HKE;clear hw9 HKP;go_wp2;refine bodyPost_ret (v:=.tuple #[.agg #[.bool false,.slice none 0 0,.slice none 0 0,.bool false,.slice none 0 0,.slice none 0 0],.iface 60 (.int .i64 3)]) ?_ rfl ⟨⟨_,by rw [HE.out];rfl,by rw [HE.out];exact HSV.out⟩,HKE.out⟩;simp [results,Tryz.results20,go_sem,Y.out.1,Y.out.2.1,Y.out.2.2.1,Y.out.2.2.2.1,Y.out.2.2.2.2.1,Y.out.2.2.2.2.2]
  | false =>
   rw [hbad] at HBD;have HBA:=af hbad;clear hbad;go_wp2_with fail;refine (HBD.out _ HK3.out).mono ?_;rintro e w4 ⟨rfl,hk4⟩;have HK4:=af (HK3.out.trans hk4);have HS4:=af (HS3'.out.kept hk4);have HR4:=af (HR3.out.kept hk4);clear hk4 b0 b1 b2;have b0:=HR4.out.cell (i:=0) (by simp);have b1:=HR4.out.cell (i:=1) (by simp);have b2:=HR4.out.cell (i:=2) (by simp);simp only [List.getElem_cons_succ,List.getElem_cons_zero] at b0 b1 b2
   have HB2:Hid (B=if fO V T f=false then (7,0,0) else match ki V T f.nodes with
    | none=>(4,0,0)
    | some p=>Cg ps p.1 (fd V T f.nodes)):=af (by have h:=HB.out;rw [if_neg (by rw [HLN.out];simp),HBA.out,if_neg (by simp)] at h;exact h)
   go_wp2_with fail;rcases EN (.slice va vn vc) f V T HO.out HCK.out ⟨_,_,_,rfl⟩ with ⟨q,hq,hfc⟩ | ⟨p,hl,hsy,hfc⟩
   ·have HCU:=af (hfc w4 (HV.out.kept HK4.out))
    have HE:Hid (B=(q,0,0)):=af (by
     have h:=HB2.out;rcases hq with ⟨rfl,h1,h2⟩ | ⟨rfl,h1⟩
     ·rw [h1,if_neg (by simp),h2] at h;exact h
     ·rw [h1,if_pos rfl] at h;exact h)
    have hq0:q≠0:=by rcases hq with ⟨rfl,_⟩ | ⟨rfl,_⟩ <;> decide
    have hqn:((q:Nat):Int)≠0:=by omega
    have hqb:(((q:Nat):Int) != 0)=true:=by simpa using hqn
    have hqe:aY q=.iface 60 (.int .i64 q):=aN hq0;rw [hqe] at HCU;have HQE:=af hqe;clear hfc hq hq0 hqe;refine HCU.out.mono ?_;rintro e w5 ⟨rfl,hk5⟩;have HK5:=af (HK4.out.trans hk5);have HS5:=af (HS4.out.kept hk5);clear hk5 b0 b1 b2;obtain ⟨n1,l1,m1,n2,l2,m2,a1,c1,a2,c2,a3,c3,a4,c4,w9,he,hw9,⟨⟨z0,p0⟩,⟨z1,p1⟩,⟨z2,p2⟩,⟨z3,p3⟩,⟨z4,p4⟩,⟨z5,p5⟩⟩,⟨f0,f1,f2,f3,f4,f5⟩,hl9,Y,HSV,_,_,HKP⟩:=HS5.out.put (SpanV.nought _);have HKE:=af (HKP.out _ HK5.out (by first | exact Nat.le_refl _ | omega));simp only [Value.agg.injEq,Array.mk.injEq,List.cons.injEq,Value.bool.injEq,Value.slice.injEq,and_true] at he;obtain ⟨rfl,⟨rfl,rfl,rfl⟩,⟨rfl,rfl,rfl⟩,rfl,⟨rfl,rfl,rfl⟩,rfl,rfl,rfl⟩:=he;rw [hw9] at Y HSV HKE;clear hw9 HKP;go_wp2;refine bodyPost_ret (v:=.tuple #[.agg #[.bool false,.slice none 0 0,.slice none 0 0,.bool false,.slice none 0 0,.slice none 0 0],.iface 60 (.int .i64 (q:Nat))]) ?_ rfl ⟨⟨_,by rw [HE.out];exact congrArg (fun x=>Ending.returned (.tuple #[_,x])) HQE.out.symm,by rw [HE.out];exact HSV.out⟩,HKE.out⟩;simp [results,Tryz.results20,go_sem,Y.out.1,Y.out.2.1,Y.out.2.2.1,Y.out.2.2.2.1,Y.out.2.2.2.2.1,Y.out.2.2.2.2.2]
   ·have HSY:=af hsy;have HTL:=af hl;obtain ⟨hgood,hmk,_⟩:=mT HO.out hsy hl;have HCU:=af (hfc w4 (HV.out.kept HK4.out));have HC24:Hid (∀ s∈p.1,s<16777216/\jE s<(ps.length:Int)):=af fun s hs=>qp (by rw [<-HPN.out];exact HLN.out) HO.out.v24 (tL HO.out hsy hl s hs)
    have HCL:Hid (p.1.length<=1024):=af hgood.2;have HGP:=af hgood;obtain ⟨z,hz⟩:∃ z,z=fd V T f.nodes:=⟨_,rfl⟩;have HZ:=af hz
    have HPA:Hid (∀ W,ag w W->Calls Tryz.prog 36 #[.agg #[.int .i64 V,.slice va vn vc,.int .i64 T]] W fun e w'=>dj w' 0 e z/\ag W w'):=af fun W hk=>by
     rw [hz];exact uW _ f V T W (HV.out.kept hk) HO.out HCK.out HSY.out (EO HO.out HSY.out)
    have HB3:Hid (B=Cg ps p.1 z):=af (by have h:=HB2.out;rw [hsy,if_neg (by simp),hl] at h;rw [hz];exact h);clear hfc hl hsy hgood hmk hz;refine HCU.out.mono ?_;rintro e w5 ⟨⟨v5,rfl,hv5⟩,hk5⟩;have HK5:=af (HK4.out.trans hk5);have HS5:=af (HS4.out.kept hk5);have HC5:=af hv5;clear b0 b1 b2;have b0:=(HR4.out.kept hk5).cell (i:=0) (by simp);have b1:=(HR4.out.kept hk5).cell (i:=1) (by simp);have b2:=(HR4.out.kept hk5).cell (i:=2) (by simp);simp only [List.getElem_cons_succ,List.getElem_cons_zero] at b0 b1 b2;clear hv5 hk5;go_wp2_with fail;cases z with
    | none =>
     refine (HPA.out _ HK5.out).mono ?_;rintro e w6 ⟨he,hk6⟩;unfold dj at he;subst he;have HK6:=af (HK5.out.trans hk6);have HS6:=af (HS5.out.kept hk6);clear hk6 b0 b1 b2;rw [aN (show (4:Nat)≠0 by decide)];have HE:Hid (B=(4,0,0)):=HB3;obtain ⟨n1,l1,m1,n2,l2,m2,a1,c1,a2,c2,a3,c3,a4,c4,w9,he,hw9,⟨⟨z0,p0⟩,⟨z1,p1⟩,⟨z2,p2⟩,⟨z3,p3⟩,⟨z4,p4⟩,⟨z5,p5⟩⟩,⟨f0,f1,f2,f3,f4,f5⟩,hl9,Y,HSV,_,_,HKP⟩:=HS6.out.put (SpanV.nought _);have HKE:=af (HKP.out _ HK6.out (by first | exact Nat.le_refl _ | omega));simp only [Value.agg.injEq,Array.mk.injEq,List.cons.injEq,Value.bool.injEq,Value.slice.injEq,and_true] at he;obtain ⟨rfl,⟨rfl,rfl,rfl⟩,⟨rfl,rfl,rfl⟩,rfl,⟨rfl,rfl,rfl⟩,rfl,rfl,rfl⟩:=he;rw [hw9] at Y HSV HKE;clear hw9 HKP;go_wp2;refine bodyPost_ret (v:=.tuple #[.agg #[.bool false,.slice none 0 0,.slice none 0 0,.bool false,.slice none 0 0,.slice none 0 0],.iface 60 (.int .i64 4)]) ?_ rfl ⟨⟨_,by rw [HE.out];rfl,by rw [HE.out];exact HSV.out⟩,HKE.out⟩;simp [results,Tryz.results20,go_sem,Y.out.1,Y.out.2.1,Y.out.2.2.1,Y.out.2.2.2.1,Y.out.2.2.2.2.1,Y.out.2.2.2.2.2]
    | some l =>
     refine (HPA.out _ HK5.out).mono ?_;rintro e w6 ⟨⟨v6,rfl,ho6⟩,hk6⟩;have HK6:=af (HK5.out.trans hk6);have HS6:=af (HS5.out.kept hk6);have HC6:=af (HC5.out.kept hk6);have HL6:=af ho6.1.ints;obtain ⟨hgl,_⟩:=oW HO.out HSY.out HZ.out.symm;have hL24:∀ s∈l,s<16777216/\jE s<(ps.length:Int):=fun s hs=>qp (by rw [<-HPN.out];exact HLN.out) HO.out.v24 (rC HO.out HSY.out HZ.out.symm ho6.2 s hs)
     have hll:l.length<=1024:=hgl.2;have hF91:∀ s∈p.1,(ai (fQ ps s)).Short 91:=fun s _=>gA HOKS.out HS3.out H30.out s
     have hG91:∀ s∈l,(ai (gQ ps s)).Short 91:=fun s _=>jD HOKS.out HBA.out HS3.out H30.out s
     have sF:=cq HCL.out hF91;have sG:=cq hll hG91;have gF:=bQ hF91;have gG:=bQ hG91;have sF2:=cX sF (by decide);have gG2:=cX gG (by decide);obtain ⟨R1,hR1⟩:∃ R1,R1=ai (gb (aO (gQ ps) l) (aA (fQ ps) p.1)):=⟨_,rfl⟩;obtain ⟨R2,hR2⟩:∃ R2,R2=ai (gJ (1 - aO (fQ ps) p.1) (1 - aA (gQ ps) l)):=⟨_,rfl⟩;clear hk6 ho6 b0 b1 b2;have HFA:Hid (∀ s∈p.1,∀ W,ag w W->Calls Tryz.prog 49 #[.int .i64 s,.slice pa pn pc] W fun e w'=>(∃ v',e=.returned v'/\RatAt w' v' (ai (fQ ps s)))/\ag W w'):=af fun s hs W h=>fz s _ ps W (HC24.out s hs).1 (by rw [HPN.out];rw [HPN.out] at HP;exact HP.out.kept h) HS3.out H30.out
     have HWA:Hid (∀ s∈l,∀ W,ag w W->Calls Tryz.prog 54 #[.int .i64 s,.slice pa pn pc] W fun e w'=>(∃ v',e=.returned v'/\RatAt w' v' (ai (gQ ps s)))/\ag W w'):=af fun s hs W h=>jf s _ ps W (hL24 s hs).1 (by rw [HPN.out];rw [HPN.out] at HP;exact HP.out.kept h) HS3.out H30.out HBA.out
     have HN1:Hid (∀ W,ag w6 W->Calls Tryz.prog 48 #[v6,.slice pa pn pc,.func (.func 54) #[] #[]] W fun e w'=>(∃ v',e=.returned v'/\RatAt w' v' (ai (aO (gQ ps) l)))/\ag W w'):=af fun W h =>
      esnone_any 54 (enters_of Tryz.func54 (by kernel_rfl) rfl) (gQ ps) l _ _ W (HL6.out.kept h) hll hG91 (fun s hs W2 h1=>HWA.out s hs W2 (HK6.out.trans (h.trans h1)))
     have HG1:Hid (∀ W,ag w6 W->Calls Tryz.prog 58 #[v5,.slice pa pn pc,.func (.func 49) #[] #[]] W fun e w'=>(∃ v',e=.returned v'/\RatAt w' v' (ai (aA (fQ ps) p.1)))/\ag W w'):=af fun W h =>
      esgreat_any 49 (enters_of Tryz.func49 (by kernel_rfl) rfl) (fQ ps) p.1 _ _ W (HC6.out.kept h) HCL.out hF91 (fun s hs W2 h1=>HFA.out s hs W2 (HK6.out.trans (h.trans h1)))
     have HN2:Hid (∀ W,ag w6 W->Calls Tryz.prog 48 #[v5,.slice pa pn pc,.func (.func 49) #[] #[]] W fun e w'=>(∃ v',e=.returned v'/\RatAt w' v' (ai (aO (fQ ps) p.1)))/\ag W w'):=af fun W h =>
      esnone_any 49 (enters_of Tryz.func49 (by kernel_rfl) rfl) (fQ ps) p.1 _ _ W (HC6.out.kept h) HCL.out hF91 (fun s hs W2 h1=>HFA.out s hs W2 (HK6.out.trans (h.trans h1)))
     have HG2:Hid (∀ W,ag w6 W->Calls Tryz.prog 58 #[v6,.slice pa pn pc,.func (.func 54) #[] #[]] W fun e w'=>(∃ v',e=.returned v'/\RatAt w' v' (ai (aA (gQ ps) l)))/\ag W w'):=af fun W h =>
      esgreat_any 54 (enters_of Tryz.func54 (by kernel_rfl) rfl) (gQ ps) l _ _ W (HL6.out.kept h) hll hG91 (fun s hs W2 h1=>HWA.out s hs W2 (HK6.out.trans (h.trans h1)))
     have HMX:Hid (∀ W u1 u2,RatAt W u1 (ai (aO (gQ ps) l))->RatAt W u2 (ai (aA (fQ ps) p.1))->Calls Tryz.prog 57 #[u1,u2] W fun e w'=>(∃ v',e=.returned v'/\RatAt w' v' R1)/\ag W w'):=af fun W u1 u2 k1 k2=>by
      have h:=pB u1 u2 _ _ W k1 k2 ⟨Nat.le_trans sG.1 (by omega),Nat.le_trans sG.2 (by omega)⟩ ⟨Nat.le_trans gF.1 (by omega),Nat.le_trans gF.2 (by omega)⟩;rw [ap,ap,<-hR1] at h;exact h
     have HT1:Hid (∀ W u,RatAt W u (ai (aO (fQ ps) p.1))->Calls Tryz.prog 47 #[u] W fun e w'=>(∃ v',e=.returned v'/\RatAt w' v' (ai (1 - aO (fQ ps) p.1)))/\ag W w'):=af fun W u hu=>by
      have h:=eK u _ W hu (mN sF);rw [ap] at h;exact h
     have HT2:Hid (∀ W u,RatAt W u (ai (aA (gQ ps) l))->Calls Tryz.prog 47 #[u] W fun e w'=>(∃ v',e=.returned v'/\RatAt w' v' (ai (1 - aA (gQ ps) l)))/\ag W w'):=af fun W u hu=>by
      have h:=eK u _ W hu (mN gG);rw [ap] at h;exact h
     have HMN:Hid (∀ W u1 u2,RatAt W u1 (ai (1 - aO (fQ ps) p.1))->RatAt W u2 (ai (1 - aA (gQ ps) l))->Calls Tryz.prog 59 #[u1,u2] W fun e w'=>(∃ v',e=.returned v'/\RatAt w' v' R2)/\ag W w'):=af fun W u1 u2 k1 k2=>by
      have h:=tq u1 u2 _ _ W k1 k2 ⟨Nat.le_trans sF2.1 (by omega),Nat.le_trans sF2.2 (by omega)⟩ ⟨Nat.le_trans gG2.1 (by omega),Nat.le_trans gG2.2 (by omega)⟩;rw [ap,ap,<-hR2] at h;exact h
     have HRR:Hid (ai (gb (aO (gQ ps) l) (aA (fQ ps) p.1))=R1/\ai (gJ (1 - aO (fQ ps) p.1) (1 - aA (gQ ps) l))=R2):=af ⟨hR1.symm,hR2.symm⟩;have HBX:Hid (B=(0,gb (aO (gQ ps) l) (aA (fQ ps) p.1),gJ (1 - aO (fQ ps) p.1) (1 - aA (gQ ps) l))):=HB3;clear hgl hL24 hll hF91 hG91 sF sG gF gG sF2 gG2 hR1 hR2;obtain ⟨x1,hx1⟩:∃ x,x=aO (gQ ps) l:=⟨_,rfl⟩;obtain ⟨x2,hx2⟩:∃ x,x=aA (fQ ps) p.1:=⟨_,rfl⟩;obtain ⟨x3,hx3⟩:∃ x,x=aO (fQ ps) p.1:=⟨_,rfl⟩;obtain ⟨x4,hx4⟩:∃ x,x=aA (gQ ps) l:=⟨_,rfl⟩;rw [<-hx1] at HN1 HMX HRR HBX;rw [<-hx2] at HG1 HMX HRR HBX;rw [<-hx3] at HN2 HT1 HMN HRR HBX;rw [<-hx4] at HG2 HT2 HMN HRR HBX;clear hx1 hx2 hx3 hx4;go_wp2_with fail;refine (HN1.out _ (ag.refl _)).mono ?_;rintro e w7 ⟨⟨v7,rfl,hv7⟩,hk7⟩;have HA7:=af hv7;have HQ7:=af hk7;clear hv7 hk7;go_wp2_with fail;refine (HG1.out _ HQ7.out).mono ?_;rintro e w8 ⟨⟨v8,rfl,hv8⟩,hk8⟩;have HA8:=af hv8;have HB8:=af (HA7.out.kept hk8);have HQ8:=af (HQ7.out.trans hk8);clear hv8 hk8;go_wp2_with fail;refine (HMX.out _ _ _ HB8.out HA8.out).mono ?_;rintro e w9 ⟨⟨v9,rfl,hv9⟩,hk9⟩;have HA9:=af hv9;have HQ9:=af (HQ8.out.trans hk9);clear hv9 hk9;go_wp2_with fail;refine (HN2.out _ HQ9.out).mono ?_;rintro e w10 ⟨⟨v10,rfl,hv10⟩,hk10⟩;have HA10:=af hv10;have HB10:=af (HA9.out.kept hk10);have HQ10:=af (HQ9.out.trans hk10)
     clear hv10 hk10;go_wp2_with fail;refine (HT1.out _ _ HA10.out).mono ?_;rintro e w11 ⟨⟨v11,rfl,hv11⟩,hk11⟩;have HA11:=af hv11;have HB11:=af (HB10.out.kept hk11);have HQ11:=af (HQ10.out.trans hk11);clear hv11 hk11;go_wp2_with fail;refine (HG2.out _ HQ11.out).mono ?_;rintro e w12 ⟨⟨v12,rfl,hv12⟩,hk12⟩;have HA12:=af hv12;have HB12:=af (HB11.out.kept hk12);have HC12:=af (HA11.out.kept hk12);have HQ12:=af (HQ11.out.trans hk12);clear hv12 hk12;go_wp2_with fail;refine (HT2.out _ _ HA12.out).mono ?_;rintro e w13 ⟨⟨v13,rfl,hv13⟩,hk13⟩;have HA13:=af hv13;have HB13:=af (HB12.out.kept hk13);have HC13:=af (HC12.out.kept hk13);have HQ13:=af (HQ12.out.trans hk13);clear hv13 hk13;go_wp2_with fail;refine (HMN.out _ _ _ HC13.out HA13.out).mono ?_;rintro e w14 ⟨⟨v14,rfl,hv14⟩,hk14⟩;have hq14:=HQ13.out.trans hk14;have ha:=HB13.out.kept hk14;obtain ⟨d1,d2,d3,d4,d5,d6,d7,rfl⟩:=hv14.parts;obtain ⟨g1,g2,g3,g4,g5,g6,g7,rfl⟩:=ha.parts;have hsv:=SpanV.of2 ha hv14;obtain ⟨z1,z2,z3,z4,z5,z6,y1,y2,y3,y4,y5,y6,y7,y8,w17,he,hw17,⟨⟨z0,p0⟩,⟨zz1,p1⟩,⟨zz2,p2⟩,⟨zz3,p3⟩,⟨zz4,p4⟩,⟨zz5,p5⟩⟩,⟨f0,f1,f2,f3,f4,f5⟩,hl17,Y,HSV,_,_,HKP⟩:=(HS6.out.kept hq14).put hsv;simp only [Value.agg.injEq,Array.mk.injEq,List.cons.injEq,Value.bool.injEq,Value.slice.injEq,and_true] at he;obtain ⟨rfl,⟨rfl,rfl,rfl⟩,⟨rfl,rfl,rfl⟩,rfl,⟨rfl,rfl,rfl⟩,rfl,rfl,rfl⟩:=he
     have HKE:=af (HKP.out _ (HK6.out.trans hq14) (by omega));rw [hw17] at Y HSV HKE;clear hv14 hk14 ha hq14 hsv hw17 HKP;go_wp2;refine bodyPost_ret (v:=.tuple #[.agg #[.bool g1,.slice g4 g2 g5,.slice g6 g3 g7,.bool d1,.slice d4 d2 d5,.slice d6 d3 d7],.nilIface]) ?_ rfl ⟨⟨_,by rw [HBX.out];rfl,by rw [HBX.out];show SpanV _ _ (ai _) (ai _);rw [HRR.out.1,HRR.out.2];exact HSV.out⟩,HKE.out⟩;simp [results,Tryz.results20,go_sem,Y.out.1,Y.out.2.1,Y.out.2.2.1,Y.out.2.2.2.1,Y.out.2.2.2.2.1,Y.out.2.2.2.2.2]
 ·have HLN:=af hlen;have hlb:((pn:Int) != (V:Int))=true:=by simp;omega
  clear hlen;have HK4:=HK3;have HS4:=HS3';have HE:Hid (B=(11,0,0)):=af (by have h:=HB.out;rw [if_pos HLN.out] at h;exact h);obtain ⟨n1,l1,m1,n2,l2,m2,a1,c1,a2,c2,a3,c3,a4,c4,w9,he,hw9,⟨⟨z0,p0⟩,⟨z1,p1⟩,⟨z2,p2⟩,⟨z3,p3⟩,⟨z4,p4⟩,⟨z5,p5⟩⟩,⟨f0,f1,f2,f3,f4,f5⟩,hl9,Y,HSV,_,_,HKP⟩:=HS4.out.put (SpanV.nought _);have HKE:=af (HKP.out _ HK4.out (by first | exact Nat.le_refl _ | omega));simp only [Value.agg.injEq,Array.mk.injEq,List.cons.injEq,Value.bool.injEq,Value.slice.injEq,and_true] at he;obtain ⟨rfl,⟨rfl,rfl,rfl⟩,⟨rfl,rfl,rfl⟩,rfl,⟨rfl,rfl,rfl⟩,rfl,rfl,rfl⟩:=he;rw [hw9] at Y HSV HKE;clear hw9 HKP;go_wp2;refine bodyPost_ret (v:=.tuple #[.agg #[.bool false,.slice none 0 0,.slice none 0 0,.bool false,.slice none 0 0,.slice none 0 0],.iface 60 (.int .i64 11)]) ?_ rfl ⟨⟨_,by rw [HE.out];rfl,by rw [HE.out];exact HSV.out⟩,HKE.out⟩;simp [results,Tryz.results20,go_sem,Y.out.1,Y.out.2.1,Y.out.2.2.1,Y.out.2.2.2.1,Y.out.2.2.2.2.1,Y.out.2.2.2.2.2]
theorem vL (v:Value) (a b:Rat) (w:World) (hv:SpanV w v (ai a) (ai b)) (ha:(ai a).Short 200000) (hb:(ai b).Short 200000) (hab:a<=b):Calls Tryz.prog 37 #[v] w fun e w'=>e=.returned (.bool true)/\ag w w':=by
 have HVA:Hid (∀ x,(ai x).Short 200000->∀ W u,RatAt W u (ai x)->Calls Tryz.prog 68 #[u] W fun e w'=>e=.returned (.bool true)/\ag W w'):=af fun x hx W u hu=>by
  have h:=gP u _ W hu ⟨Nat.le_trans hx.1 (by omega),Nat.le_trans hx.2 (by omega)⟩;rw [gx] at h;exact h
 obtain ⟨S,hS⟩:∃ S,S=bT (a - b):=⟨_,rfl⟩;have hS0:S<=0:=by rw [hS];exact (eJ a b).2 hab
 have HCM:Hid (∀ W u1 u2,RatAt W u1 (ai a)->RatAt W u2 (ai b)->Calls Tryz.prog 29 #[u1,u2] W fun e w'=>e=.returned (.int .i64 S)/\ag W w'):=af fun W u1 u2 k1 k2=>by
  have h:=jq u1 u2 _ _ W k1 k2 ⟨Nat.le_trans ha.1 (by omega),Nat.le_trans ha.2 (by omega)⟩ ⟨Nat.le_trans hb.1 (by omega),Nat.le_trans hb.2 (by omega)⟩;rw [ap,ap,<-hS] at h;exact h
 have HV1:=af (HVA.out a ha);have HV2:=af (HVA.out b hb);obtain ⟨a1,c1,a2,c2,a3,c3,a4,c4,rfl,h1,h2,h3,h4⟩:=hv.shape;obtain ⟨w1,hw1⟩:∃ w1,w1=w.alloc (.cells #[.bool (ai a).neg,.slice a1 (ai a).num.length c1,.slice a2 (ai a).den.length c2,.bool (ai b).neg,.slice a3 (ai b).num.length c3,.slice a4 (ai b).den.length c4] 44):=⟨_,rfl⟩;have HX1:Hid (SpnAt w1 w.heap.size (ai a) (ai b)):=af (by rw [hw1];exact SpnAt.made h1 h2 h3 h4);have HK1:Hid (ag w w1):=af (by rw [hw1];exact (ag.refl _).alloc _);have hk1:=HK1.out;have y1:=h1.kept hk1;have y2:=h2.kept hk1;have y3:=h3.kept hk1;have y4:=h4.kept hk1;have HLO:Hid (∀ W,ag w1 W->RatAt W (.agg #[.bool (ai a).neg,.slice a1 (ai a).num.length c1,.slice a2 (ai a).den.length c2]) (ai a)):=af fun W h=>⟨_,_,rfl,y1.kept h,y2.kept h⟩
 have HHI:Hid (∀ W,ag w1 W->RatAt W (.agg #[.bool (ai b).neg,.slice a3 (ai b).num.length c3,.slice a4 (ai b).den.length c4]) (ai b)):=af fun W h=>⟨_,_,rfl,y3.kept h,y4.kept h⟩
 have hr1:aj w1 w.heap.size 44 [.bool (ai a).neg,.slice a1 (ai a).num.length c1,.slice a2 (ai a).den.length c2,.bool (ai b).neg,.slice a3 (ai b).num.length c3,.slice a4 (ai b).den.length c4]:=by
  rw [hw1];exact aj.made w #[.bool (ai a).neg,.slice a1 (ai a).num.length c1,.slice a2 (ai a).den.length c2,.bool (ai b).neg,.slice a3 (ai b).num.length c3,.slice a4 (ai b).den.length c4] 44
 have HR1:=af hr1;have x0:=hr1.cell (i:=0) (by simp);have x1:=hr1.cell (i:=1) (by simp);have x2:=hr1.cell (i:=2) (by simp);simp only [List.getElem_cons_succ,List.getElem_cons_zero] at x0 x1 x2;have HW1:=af hw1;have dS:decide (S<=0)=true:=decide_eq_true hS0;generalize (ai a).neg=e0 at *;generalize (ai a).num.length=e1 at *;generalize (ai a).den.length=e2 at *;generalize (ai b).neg=e3 at *;generalize (ai b).num.length=e4 at *;generalize (ai b).den.length=e5 at *;clear hv ha hb hab hS hw1 h1 h2 h3 h4 y1 y2 y3 y4 hr1 hk1 HVA;go_enter Tryz.func37,Tryz.ntmps37;go_wp2_with fail;rw [<-HW1.out];refine (HV1.out _ _ (HLO.out _ (ag.refl _))).mono ?_;rintro e w2 ⟨rfl,hk2⟩;have z3:=(HR1.out.kept hk2).cell (i:=3) (by simp);have z4:=(HR1.out.kept hk2).cell (i:=4) (by simp);have z5:=(HR1.out.kept hk2).cell (i:=5) (by simp);simp only [List.getElem_cons_succ,List.getElem_cons_zero] at z3 z4 z5;have HK2:=af hk2;clear hk2 x0 x1 x2;go_wp2_with fail;refine (HV2.out _ _ (HHI.out _ HK2.out)).mono ?_;rintro e w3 ⟨rfl,hk3⟩;have hk13:=HK2.out.trans hk3;have HK3:=af hk13;have q:=fun i (hi:i<6)=>(HR1.out.kept hk13).cell (i:=i) (by simpa using hi)
 have q0:=q 0 (by omega);have q1:=q 1 (by omega);have q2:=q 2 (by omega);have q3:=q 3 (by omega);have q4:=q 4 (by omega);have q5:=q 5 (by omega);simp only [List.getElem_cons_succ,List.getElem_cons_zero] at q0 q1 q2 q3 q4 q5;clear hk3 hk13 z3 z4 z5 q;go_wp2_with fail;refine (HCM.out _ _ _ (HLO.out _ HK3.out) (HHI.out _ HK3.out)).mono ?_;rintro e w4 ⟨rfl,hk4⟩;go_wp2;go_ret;exact ⟨by first | rfl | simp [hS0],HK1.out.trans (HK3.out.trans hk4)⟩
theorem CX (g:Nat) (a b:Rat) (w:World) (hv:ArrAt w g 29 [ai a,ai b]) (ha:(ai a).Short 200000) (hb:(ai b).Short 200000) (hab:a<=b):Calls Tryz.prog 140 #[.slice (some ⟨g,0,none⟩) 2 2] w fun e w'=>(∃ v',e=.returned v'/\SpanV w' v' (ai a) (ai b))/\ag w w':=by
 have hsa:(ai a).Short 68719476736:=⟨Nat.le_trans ha.1 (by omega),Nat.le_trans ha.2 (by omega)⟩;have hsb:(ai b).Short 68719476736:=⟨Nat.le_trans hb.1 (by omega),Nat.le_trans hb.2 (by omega)⟩
 have HM:Hid (∀ x,a<=x->(ai x).Short 68719476736->∀ W u1 u2,RatAt W u1 (ai a)->RatAt W u2 (ai x)->Calls Tryz.prog 59 #[u1,u2] W fun e w'=>(∃ v',e=.returned v'/\RatAt w' v' (ai a))/\ag W w'):=af fun x hx hs W u1 u2 k1 k2=>by
  have h:=tq u1 u2 _ _ W k1 k2 hsa hs;rw [ap,ap,gJ,if_pos hx] at h;exact h
 have HX:Hid (∀ x,a<=x->(ai x).Short 68719476736->∀ W u1 u2,RatAt W u1 (ai a)->RatAt W u2 (ai x)->Calls Tryz.prog 57 #[u1,u2] W fun e w'=>(∃ v',e=.returned v'/\RatAt w' v' (ai x))/\ag W w'):=af fun x hx hs W u1 u2 k1 k2=>by
  have h:=pB u1 u2 _ _ W k1 k2 hsa hs
  have e:gb a x=x:=by
   unfold gb;split
   ·exact Rat.le_antisymm hx (by assumption)
   ·rfl
  rw [ap,ap,e] at h;exact h
 have HM1:=af (HM.out a Rat.le_refl hsa);have HX1:=af (HX.out a Rat.le_refl hsa);have HM2:=af (HM.out b hab hsb);have HX2:=af (HX.out b hab hsb);obtain ⟨lo,hlo⟩:∃ lo,lo=ai a:=⟨_,rfl⟩;obtain ⟨hi,hhi⟩:∃ hi,hi=ai b:=⟨_,rfl⟩;rw [<-hlo] at HM1 HX1 HM2 HX2 hv⊢;rw [<-hhi] at HM2 HX2 hv⊢;clear ha hb hab hsa hsb HM HX hlo hhi;have HV:=af hv;obtain ⟨w1,hw1⟩:∃ w1,w1=w.alloc (.cells #[.bool false,.slice none 0 0,.slice none 0 0,.bool false,.slice none 0 0,.slice none 0 0] 44):=⟨_,rfl⟩;have HS1:Hid (SpnAt w1 w.heap.size ⟨false,[],[]⟩ ⟨false,[],[]⟩):=af (by rw [hw1];exact SpnAt.zero w);have HK1:Hid (ag w w1):=af (by rw [hw1];exact (ag.refl _).alloc _);have HZ1:Hid (w1.heap.size=w.heap.size+1):=af (by rw [hw1];simp);have HW1:=af hw1;obtain ⟨n1,l1,m1,n2,l2,m2,a1,c1,a2,c2,a3,c3,a4,c4,x0,x1,x2,x3,x4,x5,hgl,HLO,HHI,_⟩:=(HV.out.kept HK1.out).read2;have HLOK:Hid (∀ W,ag w1 W->RatAt W (.agg #[.bool n1,.slice a1 l1 c1,.slice a2 m1 c2]) lo):=af fun W h=>HLO.out.kept h
 have HHIK:Hid (∀ W,ag w1 W->RatAt W (.agg #[.bool n2,.slice a3 l2 c3,.slice a4 m2 c4]) hi):=af fun W h=>HHI.out.kept h
 have HX345:=af (And.intro x3 (And.intro x4 x5));clear hv hw1 x3 x4 x5;go_enter Tryz.func140,Tryz.ntmps140;go_upto_region 1 with fail
 go_cut [3] (fun p wx=>∃ G:Nat,p=.pointer (some ⟨G,0,none⟩)/\Hid (w.heap.size<G/\SpnAt wx G lo lo/\ag w1 wx))
 case first =>
  rw [<-HW1.out]
  go_region_held3 (fun w'=>w'.cell? ⟨g,0,none⟩=some (.bool n1)/\w'.cell? ⟨g,1,none⟩=some (.slice a1 l1 c1)/\w'.cell? ⟨g,2,none⟩=some (.slice a2 m1 c2))
   (first | go_keep | (refine (fun hq:ag w1 _=>⟨hq.cell x0,hq.cell x1,hq.cell x2⟩) ?_;repeat (with_reducible first | exact HKF3.out | exact HKF2.out | exact ag.refl _ | apply ag.drew | apply ag.alloc | refine ag.store ?_ (by omega) _ _)))
   (first
   | (go_at_call 59;(with_reducible refine (HM1.out _ _ _ (HLOK.out _ (by repeat (with_reducible first | exact ag.refl _ | apply ag.drew | apply ag.alloc))) (HLOK.out _ (by repeat (with_reducible first | exact ag.refl _ | apply ag.drew | apply ag.alloc)))).mono ?_);rintro e w2 ⟨⟨v2,rfl,hv2⟩,hk2⟩;have hkf:ag w1 w2:=(by refine ag.trans ?_ hk2;repeat (with_reducible first | exact ag.refl _ | apply ag.drew | apply ag.alloc));have HKF2:=af hkf;have hz2:=hkf.size;obtain ⟨s1,s2,s3,s4,s5,s6,s7,rfl⟩:=hv2.parts;have HV2:=af hv2;(try have HB2:Hid (SpnAt w2 w1.heap.size ⟨false,[],[]⟩ ⟨false,[],[]⟩):=af (by with_reducible first | exact SpnAt.kept ((SpnAt.zero w1).kept (ag.refl _).drew) hk2 | exact SpnAt.kept (SpnAt.zero w1.drew) hk2));clear hk2 hkf hv2)
   | (go_at_call 57;(with_reducible refine (HX1.out _ _ _ (HLOK.out _ (by repeat (with_reducible first | exact HKF2.out | apply ag.drew | apply ag.alloc))) (HLOK.out _ (by repeat (with_reducible first | exact HKF2.out | apply ag.drew | apply ag.alloc)))).mono ?_);rintro e w3 ⟨⟨v3,rfl,hv3⟩,hk3⟩;have hkf:ag w2 w3:=(by refine ag.trans ?_ hk3;repeat (with_reducible first | exact ag.refl _ | apply ag.drew | apply ag.alloc));have HKF3:=af (HKF2.out.trans hkf);have hz3:=HKF3.out.size;have HV2B:=af (HV2.out.kept hkf);obtain ⟨r1,r2,r3,r4,r5,r6,r7,rfl⟩:=hv3.parts;have HV3:=af hv3;(try have HB3:=af (by with_reducible exact SpnAt.kept (SpnAt.zero w2) hk3));(try have HB3:=af (HB2.out.kept hkf));(try obtain ⟨_,_,_,_,_,_,_,_,⟨t0,t1,t2,t3,t4,t5⟩,hfr,hgb,_⟩:=HB3.out.at);(try have f0:=hfr 0);(try have f1:=hfr 1);(try have f2:=hfr 2);(try have f3:=hfr 3);(try have f4:=hfr 4);(try have f5:=hfr 5);clear hk3 hkf hv3))
  all_goals go_wp2_with fail
  all_goals go_meet
  all_goals
   have hsv:=SpanV.of2 HV2B.out HV3.out;have hz1:=HZ1.out;have hk3:=HKF3.out
   first
    | with_reducible exact ⟨_,rfl,af ⟨by omega,SpnAt.lay hsv,hk3.alloc _⟩⟩
    | with_reducible exact ⟨_,rfl,af ⟨by omega,HB3.out.set hsv,(((((hk3.store (by omega) _ _).store (by omega) _ _).store (by omega) _ _).store (by omega) _ _).store (by omega) _ _).store (by omega) _ _⟩⟩
 case rest =>
  obtain ⟨G,rfl,HG⟩:=hcut;obtain ⟨wa,rfl⟩:∃ wa:World,wa=wc:=⟨_,rfl⟩;have HKa:=af HG.out.2.2;have HSG:=af HG.out.2.1;have hG1:w1.heap.size<=G:=by have h1:=HG.out.1;have h2:=HZ1.out;omega
  clear x0 x1 x2 hgl;go_wp2_with fail;go_loopg [24] 1 (fun kx s24 wr=>∃ t:Nat,t<=1/\s24=.int .i64 t/\1 - t<=kx/\Hid (ag w1 wr)/\Hid (SpnAt wr G lo (if t=0 then lo else hi)))
  case atStart=>exact ⟨0,by omega,rfl,by omega,HKa,HSG⟩
  case round =>
   obtain ⟨t,ht,rfl,htx,HKr,HSr⟩:=hrel;by_cases ht0:t=0
   ·subst ht0;obtain ⟨wo,rfl⟩:∃ wo:World,wo=wr:=⟨_,rfl⟩;have x3:=HKr.out.cell HX345.out.1;have x4:=HKr.out.cell HX345.out.2.1;have x5:=HKr.out.cell HX345.out.2.2;have hglo:=World.block_lt_of_cell? _ _ x3;obtain ⟨w4,hw4⟩:∃ w4,w4=wo.alloc (.cells #[.bool n2,.slice a3 l2 c3,.slice a4 m2 c4] 29):=⟨_,rfl⟩;have hk4:ag wo w4:=by rw [hw4];exact (ag.refl _).alloc _
    have HXV:=af (HHIK.out _ (HKr.out.trans hk4));have HS4:Hid (SpnAt w4 G lo lo):=af (by have h:=HSr.out;rw [if_pos rfl] at h;exact h.kept hk4);have hr4:=aj.made wo #[.bool n2,.slice a3 l2 c3,.slice a4 m2 c4] 29;rw [<-hw4] at hr4;have z0:=hr4.cell (i:=0) (by simp);have z1:=hr4.cell (i:=1) (by simp);have z2:=hr4.cell (i:=2) (by simp);simp only [List.getElem_cons_succ,List.getElem_cons_zero] at z0 z1 z2;have hfr:=HS4.out.free;have f0:=hfr 0;have f1:=hfr 1;have f2:=hfr 2;have f3:=hfr 3;have f4:=hfr 4;have f5:=hfr 5;obtain ⟨n5,l5,m5,n6,l6,m6,a5,c5,a6,c6,a7,c7,a8,c8,y0,y1,y2,y3,y4,y5,hgl4,HYL,HYH,_⟩:=HS4.out.read;have HW4:=af hw4;have HK4:=af hk4;clear hr4 hfr hw4 hk4;have hgo:G<wo.heap.size:=by have h:=HSr.out;rw [if_pos rfl] at h;obtain ⟨_,_,_,_,_,_,_,_,_,_,h,_⟩:=h.at;exact h
    go_upto_region 5 with fail
    rw [<-HW4.out]
    go_region_law (first
     | (rw [if_pos (by rfl)];go_simp;go_at_call 59;(with_reducible refine (HM2.out _ _ _ (HYL.out.kept (by repeat (with_reducible first | exact ag.refl _ | apply ag.drew))) (HXV.out.kept (by repeat (with_reducible first | exact ag.refl _ | apply ag.drew)))).mono ?_);rintro e w5 ⟨⟨v5,rfl,hv5⟩,hk5⟩;have hkf:ag w4 w5:=(ag.refl w4).drew.trans hk5;have HK5:=af hkf;have HO5:Hid (aw G w4 w5):=af (aw.kept hkf);obtain ⟨s1,s2,s3,s4,s5,s6,s7,rfl⟩:=hv5.parts;have HV5:=af hv5;have p0:=hkf.cell y0;have p1:=hkf.cell y1;have p2:=hkf.cell y2;have p3:=hkf.cell y3;have p4:=hkf.cell y4;have p5:=hkf.cell y5;have q0:=hkf.cell z0;have q1:=hkf.cell z1;have q2:=hkf.cell z2;have hg5:=World.block_lt_of_cell? _ _ p0;have hg6:=World.block_lt_of_cell? _ _ q0;clear hk5 hkf hv5)
     | (rw [if_pos (by rfl)];go_simp;go_at_call 57;(with_reducible refine (HX2.out _ _ _ (HYH.out.kept HK5.out) (HXV.out.kept HK5.out)).mono ?_);rintro e w6 ⟨⟨v6,rfl,hv6⟩,hk6⟩;have hkf:ag w4 w6:=HK5.out.trans hk6;have HK6:=af hkf;have HO6:Hid (aw G w4 w6):=af (aw.kept hkf);obtain ⟨r1,r2,r3,r4,r5,r6,r7,rfl⟩:=hv6.parts;have HV6:=af hv6;have HV5B:=af (HV5.out.kept hk6);have t0:=hkf.cell y0;have t1:=hkf.cell y1;have t2:=hkf.cell y2;have t3:=hkf.cell y3;have t4:=hkf.cell y4;have t5:=hkf.cell y5;have hg7:=World.block_lt_of_cell? _ _ t0;have hfr:=(HS4.out.kept hkf).free;have j0:=hfr 0;have j1:=hfr 1;have j2:=hfr 2;have j3:=hfr 3;have j4:=hfr 4;have j5:=hfr 5;clear hfr hk6 hkf hv6))
    all_goals
     have hsv:=af (HS4.out.kept HK6.out |>.set (SpanV.of2 HV5B.out HV6.out));have hkz:=af ((((((((HKr.out.trans HK4.out).trans HK6.out).store hG1 0 (.bool s1)).store hG1 1 (.slice s4 s2 s5)).store hG1 2 (.slice s6 s3 s7)).store hG1 3 (.bool r1)).store hG1 4 (.slice r4 r2 r5)).store hG1 5 (.slice r6 r3 r7));clear p0 p1 p2 p3 p4 p5 q0 q1 q2 t0 t1 t2 t3 t4 t5 j0 j1 j2 j3 j4 j5;go_wp2_with fail;go_roundg 0
     case measure=>omega
     case rel=>exact ⟨1,Nat.le_refl _,rfl,by omega,hkz,af (by rw [if_neg (by decide)];exact hsv.out)⟩
   ·have ht1:t=1:=by omega
    subst ht1;have hss:SpnAt wr G lo hi:=by have h:=HSr.out;rw [if_neg (by decide)] at h;exact h
    obtain ⟨n5,l5,m5,n6,l6,m6,a5,c5,a6,c6,a7,c7,a8,c8,y0,y1,y2,y3,y4,y5,hgl4,_,_,HSV⟩:=hss.read;obtain ⟨_,_,_,_,_,_,_,_,_,_,_,_,_,_,w',e9,hw',⟨⟨z0,p0⟩,⟨z1,p1⟩,⟨z2,p2⟩,⟨z3,p3⟩,⟨z4,p4⟩,⟨z5,p5⟩⟩,⟨f0,f1,f2,f3,f4,f5⟩,hl9,Y,HSP,_,_,HKP⟩:=(HS1.out.kept HKr.out).put HSV.out;simp only [Value.agg.injEq,Array.mk.injEq,List.cons.injEq,Value.bool.injEq,Value.slice.injEq,and_true] at e9;obtain ⟨rfl,⟨rfl,rfl,rfl⟩,⟨rfl,rfl,rfl⟩,rfl,⟨rfl,rfl,rfl⟩,rfl,rfl,rfl⟩:=e9;have HKE:=af (HKP.out _ (HK1.out.trans HKr.out) (Nat.le_refl _));rw [hw'] at Y HSP HKE;clear hw' hss;go_wp2;refine bodyPost_ret (v:=.agg #[.bool n5,.slice a5 l5 c5,.slice a6 m5 c6,.bool n6,.slice a7 l6 c7,.slice a8 m6 c8]) ?_ rfl ⟨⟨_,rfl,HSP.out⟩,HKE.out⟩;simp [results,Tryz.results140,go_sem,Y.out.1,Y.out.2.1,Y.out.2.2.1,Y.out.2.2.2.1,Y.out.2.2.2.2.1,Y.out.2.2.2.2.2]
def FY (ps:List Rw) (l:List Nat) (m:Nat):List Rw:=(List.range 13).map fun k=>ai (Ff ps l k m)
def FR (ps:List Rw) (l:List Nat):List Rw:=(List.range 13).map fun k=>ai (EC ps l k)
def FI (ps:List Rw) (l:List Nat) (k:Nat):List Rw:=(List.range 13).map fun j=>if j<k then ai (Dx ps l j) else ⟨false,[],[]⟩
def FH (ps:List Rw) (l:List Nat):List Rw:=(List.range 13).map fun j=>ai (Dx ps l j)
end Go.Proofs.YtofibjflkebkpaaGreatDoor
