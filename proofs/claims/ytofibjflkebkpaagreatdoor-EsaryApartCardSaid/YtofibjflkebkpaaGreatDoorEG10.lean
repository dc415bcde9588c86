import Derived.WalkKit
import Derived.WalkSpells
import Derived.WalkLawsBesides
import Derived.Deep.QuietTactic
import Derived.BigQuiet
import Derived.Lib.Hide
import Derived.Shelf.Abstract
import Derived.Deep.RegionWith
import Derived.Laws.AppendOwnNone
import Derived.Lib.AppendZerosOnto
import Derived.Lib.SliceRun
import Derived.Lib.SlicesCompact
import Derived.Shelf.SlSortCmp.NoneTotal
import Derived.Maps.OwnOps
import Derived.Maps.OwnSet
import Derived.Maps.Views
import Derived.Deep.MidRow
import Derived.Deep.RegionHeld3
import Derived.Deep.AppendLies
import Derived.Deep.RegionLaw
import Derived.IntWalk
import Derived.StillTailTactics
import Derived.RegionTactic
import Derived.BigRegion
import Derived.ChangeAlike
import Derived.Sort.LotD2
import Derived.Sort.LotA
import Derived.Shelf.SlSortCmp.PdqK
import Derived.Deep.DeepCutAuto
import Derived.Lib.ItoaNum
import Derived.Deep.LoopGhost
import Derived.ProofKit
import Derived.OpenShut
import Derived.SizedLaws
import Derived.Lib.SmallJoins
import Derived.Deep.Slices
import Derived.Deep.Fields
import Derived.Deep.Strs
import Derived.Carry
import Derived.Lib.BitFns
import Derived.Deep.CutBlock
import Derived.Laws.IdiomStrings
import Derived.Test.YtofibjflkebkpaaGreatDoorEG9
import Derived.Test.YtofibjflkebkpaaGreatDoorEG2
import Derived.Test.YtofibjflkebkpaaGreatDoorEG4
import Derived.Test.YtofibjflkebkpaaGreatDoorEG7
import Derived.Test.YtofibjflkebkpaaGreatDoorEG8
import Derived.Test.YtofibjflkebkpaaGreatDoorEG3
import Derived.Test.YtofibjflkebkpaaGreatDoorEG1
set_option maxRecDepth 100000
set_option maxHeartbeats 16000000
namespace Go.Proofs.YtofibjflkebkpaaGreatDoor
open Go.RowKit
def ry (t:List (List Nat)) (arg:List Nat) (i:Nat):Option (List Nat):=(aN (t.getD i []) arg).bind (bN (t.getD (i+1) []))
theorem BI {arg:List Nat}:∀ {t r:List (List Nat)} {p:List Nat},r.length=t.length->(∀ i,i<t.length->ry (p :: t) arg i=some (r.getD i []))->jP arg p t=some r:=by
 intro t;induction t with
 | nil=>intro r p hl _;rw [List.eq_nil_of_length_eq_zero hl];rfl
 | cons q t ih =>
  intro r p hl h;cases r with
  | nil=>cases hl
  | cons y r =>
   have h0:=h 0 (by simp);obtain ⟨x,hx,hy⟩:=Option.bind_eq_some_iff.1 h0;have h1:=ih (r:=r) (p:=q) (by simpa using hl) fun i hi=>h (i+1) (by simpa using hi)
   simp only [List.getD_cons_zero,List.getD_cons_succ] at hx hy;unfold jP;rw [hx];simp only [Option.bind_some];rw [hy];simp only [Option.bind_some];rw [h1];rfl
theorem vG {arg:List Nat}:∀ {t:List (List Nat)} {p:List Nat} {i:Nat},i<t.length->ry (p :: t) arg i=none->jP arg p t=none:=by
 intro t;induction t with
 | nil=>intro p i h;cases h
 | cons q t ih =>
  intro p i hi h;unfold jP;cases hx:aN p arg with
  | none=>rfl
  | some x =>
   simp only [Option.bind_some];cases hy:bN q x with
   | none=>rfl
   | some y =>
    simp only [Option.bind_some];cases i with
    | zero =>
     unfold ry at h;simp only [List.getD_cons_zero,List.getD_cons_succ] at h;rw [hx] at h;simp only [Option.bind_some] at h;rw [hy] at h;cases h
    | succ i =>
     have h1:jP arg q t=none:=ih (i:=i) (by simpa using hi) h;rw [h1];rfl
theorem yS {arg:List Nat} {t r:List (List Nat)} (hl:r.length=t.length) (h0:0<t.length) (hz:r.getD 0 []=t.getD 0 []) (h:∀ i,i+1<t.length->ry t arg i=some (r.getD (i+1) [])):eN t arg=some r:=by
 cases t with
 | nil=>cases h0
 | cons p t =>
  cases r with
  | nil=>cases hl
  | cons y r =>
   have e:y=p:=hz;subst e;unfold eN;simp only [];rw [BI (r:=r) (by simpa using hl) fun i hi=>h i (by simpa using hi)];rfl
theorem mQ {arg:List Nat} {t:List (List Nat)} {i:Nat} (hi:i+1<t.length) (h:ry t arg i=none):eN t arg=none:=by
 cases t with
 | nil=>cases hi
 | cons p t =>
  unfold eN;simp only [];rw [vG (i:=i) (by simpa using hi) h];rfl
theorem vF {t:List (List Nat)} {args:List (List Nat)} {k:Nat} (hk:k<args.length):gz t (args.take (k+1))=(gz t (args.take k)).bind fun r=>eN r args[k]:=by
 unfold gz;rw [List.take_succ_eq_append_getElem hk,List.foldlM_append];simp [Option.bind_eq_bind]
theorem oP {t:List (List Nat)} {args:List (List Nat)} {k:Nat} (h:gz t (args.take k)=none):gz t args=none:=by
 unfold gz at *;rw [<-List.take_append_drop k args,List.foldlM_append,h];rfl
theorem Dw (v:Value) (args:List (List Nat)) (w:World) (hv:fk w v args):Calls Tryz.prog 137 #[v] w fun e w'=>dy w' w.heap.size e (bS aN [0] args)/\af w w':=by
 obtain ⟨a,c,rfl,_,hl,hx⟩:=hv;obtain ⟨n,hn⟩:∃ n,n=args.length:=⟨_,rfl⟩;rw [<-hn] at hl⊢;obtain ⟨r,hr⟩:∃ r,r=bS aN [0] args:=⟨_,rfl⟩;rw [<-hr];have HR:=ae hr;have HX:=ae hx;have HN:=ae hn;have HOP:Hid (∀ (x y:List Nat) (vx vy:Value) (W:World),bu W vx x->bu W vy y->Calls Tryz.prog 204 #[vx,vy] W fun e w'=>dy w' W.heap.size e (aN x y)/\af W w'):=ae fun x y vx vy W h1 h2=>mP x y vx vy W h1 h2
 clear hx hn hr;go_enter Tryz.func137,Tryz.ntmps137;go_wp2_with fail;go_loopg [4,11] n (fun kx out i wr=>∃ (k:Nat) (l:List Nat),k<=n/\i=.int .i64 k/\n - k<=kx/\Hid (bS aN [0] (args.take k)=some l)/\Hid (aJ wr w.heap.size out l)/\Hid (af w wr))
 case atStart=>exact ⟨0,[0],Nat.zero_le _,rfl,by omega,ae rfl,ae (aJ.one w w.heap.size 0 (by simp [Mk]) (Nat.le_refl _)),ae ((af.refl _).alloc _)⟩
 case round =>
  obtain ⟨k,l,hk,rfl,hkx,HL,HO,HK⟩:=hrel;by_cases hlt:k<n
  ·have hkx2:k<args.length:=by have:=HN.out;omega
   have hkn:(k:Int)<(n:Int):=by omega
   obtain ⟨b,o,u,rfl,hc0,hu⟩:=HX.out k hkx2;have hcell:=HK.out.cell hc0;have HC:=ae (HOP.out l args[k] u4 u wr HO.out.sets (hu.kept HK.out));have hstep:=og aN [0] args k hkx2;rw [HL.out] at hstep;simp only [Option.bind_some] at hstep;have HS:=ae hstep;have HZ:=ae HK.out.size;clear hc0 hu hstep;obtain ⟨q,hq⟩:∃ q,q=aN l args[k]:=⟨_,rfl⟩;rw [<-hq] at HC HS;cases q with
   | none =>
    have HRN:Hid (r=none):=ae (by rw [HR.out];exact oe aN [0] args (k+1) HS.out);clear hq;go_wp2_with fail;refine HC.out.mono ?_;rintro e w2 ⟨he,hk2⟩;unfold dy at he;subst he;have HK2:=ae (HK.out.trans hk2);clear hk2;rw [aA (show (4:Nat)≠0 by decide)];go_wp2;go_ret2;exact ⟨by rw [HRN.out];rfl,HK2.out⟩
   | some l2 =>
    clear hq;go_wp2_with fail;refine HC.out.mono ?_;rintro e w2 ⟨⟨v2,rfl,ho2⟩,hk2⟩;have O2:=ae (ho2.mono HZ.out);have HK2:=ae (HK.out.trans hk2);clear ho2 hk2;go_wp2_with fail;go_roundg (n - (k+1))
    case measure=>omega
    case rel=>exact ⟨k+1,l2,by omega,by go_num,Nat.le_refl _,HS,O2,HK2⟩
  ·have hkn:¬ (k:Int)<(n:Int):=by omega
   have h1:=HL.out;rw [List.take_of_length_le (by have:=HN.out;omega),<-HR.out] at h1;have H1:=ae h1;clear h1;go_wp2;go_ret2;exact ⟨by rw [H1.out];exact ⟨_,rfl,HO.out⟩,HK.out⟩
theorem Bv (v:Value) (args:List (List Nat)) (w:World) (hv:fk w v args):Calls Tryz.prog 138 #[v] w fun e w'=>dy w' w.heap.size e (bS bN [] args)/\af w w':=by
 obtain ⟨a,c,rfl,_,hl,hx⟩:=hv;obtain ⟨n,hn⟩:∃ n,n=args.length:=⟨_,rfl⟩;rw [<-hn] at hl⊢;obtain ⟨r,hr⟩:∃ r,r=bS bN [] args:=⟨_,rfl⟩;rw [<-hr];have HR:=ae hr;have HX:=ae hx;have HN:=ae hn;have HOP:Hid (∀ (x y:List Nat) (vx vy:Value) (W:World),bu W vx x->bu W vy y->Calls Tryz.prog 205 #[vx,vy] W fun e w'=>dy w' W.heap.size e (bN x y)/\af W w'):=ae fun x y vx vy W h1 h2=>tz x y vx vy W h1 h2
 clear hx hn hr;go_enter Tryz.func138,Tryz.ntmps138;go_wp2_with fail;go_loopg [4,10] n (fun kx out i wr=>∃ (k:Nat) (l:List Nat),k<=n/\i=.int .i64 k/\n - k<=kx/\Hid (bS bN [] (args.take k)=some l)/\Hid (aJ wr w.heap.size out l)/\Hid (af w wr))
 case atStart=>exact ⟨0,[],Nat.zero_le _,rfl,by omega,ae rfl,ae (aJ.nils _ _),ae (af.refl _)⟩
 case round =>
  obtain ⟨k,l,hk,rfl,hkx,HL,HO,HK⟩:=hrel;by_cases hlt:k<n
  ·have hkx2:k<args.length:=by have:=HN.out;omega
   have hkn:(k:Int)<(n:Int):=by omega
   obtain ⟨b,o,u,rfl,hc0,hu⟩:=HX.out k hkx2;have hcell:=HK.out.cell hc0;have HC:=ae (HOP.out l args[k] u4 u wr HO.out.sets (hu.kept HK.out));have hstep:=og bN [] args k hkx2;rw [HL.out] at hstep;simp only [Option.bind_some] at hstep;have HS:=ae hstep;have HZ:=ae HK.out.size;clear hc0 hu hstep;obtain ⟨q,hq⟩:∃ q,q=bN l args[k]:=⟨_,rfl⟩;rw [<-hq] at HC HS;cases q with
   | none =>
    have HRN:Hid (r=none):=ae (by rw [HR.out];exact oe bN [] args (k+1) HS.out);clear hq;go_wp2_with fail;refine HC.out.mono ?_;rintro e w2 ⟨he,hk2⟩;unfold dy at he;subst he;have HK2:=ae (HK.out.trans hk2);clear hk2;rw [aA (show (4:Nat)≠0 by decide)];go_wp2;go_ret2;exact ⟨by rw [HRN.out];rfl,HK2.out⟩
   | some l2 =>
    clear hq;go_wp2_with fail;refine HC.out.mono ?_;rintro e w2 ⟨⟨v2,rfl,ho2⟩,hk2⟩;have O2:=ae (ho2.mono HZ.out);have HK2:=ae (HK.out.trans hk2);clear ho2 hk2;go_wp2_with fail;go_roundg (n - (k+1))
    case measure=>omega
    case rel=>exact ⟨k+1,l2,by omega,by go_num,Nat.le_refl _,HS,O2,HK2⟩
  ·have hkn:¬ (k:Int)<(n:Int):=by omega
   have h1:=HL.out;rw [List.take_of_length_le (by have:=HN.out;omega),<-HR.out] at h1;have H1:=ae h1;clear h1;go_wp2;go_ret2;exact ⟨by rw [H1.out];exact ⟨_,rfl,HO.out⟩,HK.out⟩
theorem OwnFams.len {w:World} {B g n c:Nat} {xss:List (List Nat)} (h:OwnFams w B (.slice (some ⟨g,0,none⟩) n c) xss):n=xss.length:=by
 obtain ⟨us,h1,⟨h2,h3⟩,_⟩:=h;rcases h3 with ⟨h3,_⟩ | ⟨g',cap',cur,h3,_⟩
 ·cases h3
 ·cases h3;rfl
def qR (t t':List (List Nat)) (arg:List Nat) (j:Nat):Prop :=
 t'.length=t.length/\(∀ i,i<=j->t'.getD i []=t.getD i [])/\∀ i,j<=i->i+1<t.length->ry t arg i=some (t'.getD (i+1) [])
theorem qR.start (t:List (List Nat)) (arg:List Nat) {m:Nat} (h:t.length=m+1):qR t t arg m:=⟨rfl,fun _ _=>rfl,fun i h1 h2=>by omega⟩
theorem qR.step {t t':List (List Nat)} {arg l:List Nat} {j:Nat} (h:qR t t' arg (j+1)) (hj:j+1<t.length) (hl:ry t arg j=some l):qR t (t'.set (j+1) l) arg j:=by
 obtain ⟨h1,h2,h3⟩:=h;refine ⟨by rw [List.length_set];exact h1,fun i hi=>?_,fun i hi hi2=>?_⟩
 ·rw [List.getD_eq_getElem?_getD,List.getElem?_set_ne (by omega),<-List.getD_eq_getElem?_getD];exact h2 i (by omega)
 ·by_cases e:i=j
  ·subst e;rw [hl,List.getD_eq_getElem?_getD,List.getElem?_set_self (by omega)];rfl
  ·rw [List.getD_eq_getElem?_getD,List.getElem?_set_ne (by omega),<-List.getD_eq_getElem?_getD];exact h3 i (by omega) hi2
theorem qR.done {t t':List (List Nat)} {arg:List Nat} (h:qR t t' arg 0) (h0:0<t.length):eN t arg=some t' :=
 yS h.1 h0 (h.2.1 0 (Nat.le_refl _)) fun i hi=>h.2.2 i (Nat.zero_le _) hi
theorem yT (v:Value) (args:List (List Nat)) (m:Nat) (w:World) (hv:fk w v args) (hm1:1<=m) (hm2:m<=1000) :
  Calls Tryz.prog 139 #[v,.int .i64 m] w fun e w'=>dy w' 0 e (fE args m)/\af w w':=by
 obtain ⟨a,c,rfl,_,hl,hx⟩:=hv;obtain ⟨n,hn⟩:∃ n,n=args.length:=⟨_,rfl⟩;rw [<-hn] at hl⊢;obtain ⟨r,hr⟩:∃ r,r=fE args m:=⟨_,rfl⟩;rw [<-hr];have HR:=ae hr;have HX:=ae hx;have HN:=ae hn;have HPr:Hid (∀ (x y:List Nat) (vx vy:Value) (W:World),bu W vx x->bu W vy y->Calls Tryz.prog 204 #[vx,vy] W fun e w'=>dy w' W.heap.size e (aN x y)/\af W w'):=ae fun x y vx vy W h1 h2=>mP x y vx vy W h1 h2
 have HPl:Hid (∀ (x y:List Nat) (vx vy:Value) (W:World),bu W vx x->bu W vy y->Calls Tryz.prog 205 #[vx,vy] W fun e w'=>dy w' W.heap.size e (bN x y)/\af W w'):=ae fun x y vx vy W h1 h2=>tz x y vx vy W h1 h2
 clear hx hn hr;go_enter Tryz.func139,Tryz.ntmps139;go_wp2_with (at_make;refine A_ rfl _ _ rfl (m+1) (by show Value.int .i64 ((m:Int)+1)=.int .i64 ((m+1:Nat):Int);rw [Int.natCast_add];rfl) (by show Value.int .i64 ((m:Int)+1)=.int .i64 ((m+1:Nat):Int);rw [Int.natCast_add];rfl) (by omega) ?_;intro w1 ho1 hk1' hz1;obtain ⟨u0,hc0,_⟩:=ho1.cell 0 (by simp);have hf0:=ho1.free 0;have hz1n:¬ w1.heap.size=w.heap.size:=(by omega);have O1:=ae ho1;clear ho1);have hko:af w ((w1.setCell ⟨w.heap.size,0,none⟩ (.slice (some ⟨w1.heap.size,0,none⟩) 1 1)).alloc (.cells #[.int .i64 0] 3)):=((hk1'.store (Nat.le_refl _) _ _).alloc _)
 have ht0:OwnFams ((w1.setCell ⟨w.heap.size,0,none⟩ (.slice (some ⟨w1.heap.size,0,none⟩) 1 1)).alloc (.cells #[.int .i64 0] 3)) w.heap.size (.slice (some ⟨w.heap.size,0,none⟩) (m+1) (m+1)) ([0] :: List.replicate m []):=by
  have h1:=(O1.out.kept ((af.refl _).alloc (.cells #[.int .i64 0] 3))).store (by simp) 0 (aJ.one w1 0 0 (by unfold Mk;omega) (Nat.zero_le _));rw [List.replicate_succ] at h1;rw [<-World.setCell_alloc_past _ _ _ _ hz1];exact h1
 have HT0:=ae ht0;have HKO:=ae hko;clear ht0 hko hc0 hf0 hk1';go_loopg [20] n (fun kx i wr=>∃ (q:Nat) (t:List (List Nat)),q<=n/\i=.int .i64 q/\n - q<=kx/\Hid (t.length=m+1)/\Hid (OwnFams wr w.heap.size (.slice (some ⟨w.heap.size,0,none⟩) (m+1) (m+1)) t)/\Hid (gz ([0] :: List.replicate m []) (args.take q)=some t)/\Hid (af w wr))
 case atStart=>exact ⟨0,_,Nat.zero_le _,rfl,by omega,ae (by simp),HT0,ae rfl,HKO⟩
 case round =>
  clear HT0 HKO O1 hz1 hz1n;obtain ⟨q,t,hq,rfl,hqx,HTL,HOT,HG,HK⟩:=hrel;by_cases hlt:q<n
  ·have hqx2:q<args.length:=by have:=HN.out;omega
   have hqn:(q:Int)<(n:Int):=by omega
   obtain ⟨b,o,u,rfl,hc0,hu⟩:=HX.out q hqx2;have hcell:=HK.out.cell hc0;have hstep:=vF (t:=[0] :: List.replicate m []) hqx2;rw [HG.out] at hstep;simp only [Option.bind_some] at hstep;obtain ⟨arg,harg⟩:∃ x,x=args[q]:=⟨_,rfl⟩;rw [<-harg] at hu hstep;have HU:=ae hu;have HST:=ae hstep;clear hc0 hu hstep harg;go_wp2_with fail;obtain ⟨wo,rfl⟩:∃ wo:World,wo=wr:=⟨_,rfl⟩;go_loopg [9] m (fun jx s9 wi=>∃ (j:Nat) (t':List (List Nat)),j<=m/\s9=.int .i64 j/\j<=jx/\Hid (qR t t' arg j)/\Hid (OwnFams wi w.heap.size (.slice (some ⟨w.heap.size,0,none⟩) (m+1) (m+1)) t')/\Hid (af w wi))
   case atStart=>exact ⟨m,t,Nat.le_refl _,rfl,by omega,ae (qR.start t arg HTL.out),HOT,HK⟩
   case round =>
    obtain ⟨j,t',hj,rfl,hjx,HV,HOI,HKi⟩:=hrel;by_cases hj0:0<j
    ·obtain ⟨p,rfl⟩:∃ p,j=p+1:=⟨j - 1,by omega⟩;have hjn:(0:Int)<((p+1:Nat):Int):=by omega
     have ep:((p+1:Nat):Int)=(p:Int)+1:=by omega
     rw [ep] at hjn⊢;have hpl:p+1<t.length:=by have:=HTL.out;omega
     have hl':t'.length=t.length:=HV.out.1;have g1:=HV.out.2.1 p (by omega);have g2:=HV.out.2.1 (p+1) (Nat.le_refl _);obtain ⟨up,hcp,hup⟩:=HOI.out.cell p (by omega);obtain ⟨uq,hcq,huq⟩:=HOI.out.cell (p+1) (by omega);have e1:t'[p]'(by omega)=t.getD p []:=by rw [<-g1];simp [List.getD_eq_getElem?_getD,show p<t'.length by omega]
     have e2:t'[p+1]'(by omega)=t.getD (p+1) []:=by rw [<-g2];simp [List.getD_eq_getElem?_getD,show p+1<t'.length by omega]
     rw [e1] at hup;rw [e2] at huq;have HC:=ae (HPr.out (t.getD p []) arg up u wr hup.sets (HU.out.kept HKi.out));have HPV:Hid (ry t arg p=(aN (t.getD p []) arg).bind (bN (t.getD (p+1) []))):=ae rfl;obtain ⟨z,hz⟩:∃ z,z=aN (t.getD p []) arg:=⟨_,rfl⟩;rw [<-hz] at HC HPV;have HUQ:=ae huq;have HPL:=ae hpl;have hfp:=HOI.out.free (p+1);have hp0:(0:Int)<=(p:Int):=by omega
     have hpm:(p:Int)<(m:Int)+1:=by omega
     have hpm1:(p:Int)+1<(m:Int)+1:=by omega
     have hp9:(p:Int)+1 - 1=(p:Int):=by omega
     clear hz hup huq g1 g2 e1 e2 hl' hpl ep;cases z with
     | none =>
      have HRN:Hid (r=none):=ae (by
       have h1:eN t arg=none:=mQ HPL.out HPV.out;have h2:=HST.out;rw [h1] at h2;rw [HR.out];unfold fE;rw [oP h2];rfl)
      go_wp2_with fail;refine HC.out.mono ?_;rintro e w2 ⟨he,hk2⟩;unfold dy at he;subst he;have HK2:=ae (HKi.out.trans hk2);clear hk2 hcp hcq;rw [aA (show (4:Nat)≠0 by decide)];go_wp2;go_ret2;exact ⟨by rw [HRN.out];rfl,HK2.out⟩
     | some x =>
      go_wp2_with fail;refine HC.out.mono ?_;rintro e w2 ⟨⟨v2,rfl,ho2⟩,hk2⟩;have HO2:=ae (HOI.out.kept hk2);have HK2:=ae (HKi.out.trans hk2);have hcq2:=hk2.cell hcq;have HC2:=ae (HPl.out (t.getD (p+1) []) x uq v2 w2 (HUQ.out.kept hk2).sets ho2.sets);have HPV2:Hid (ry t arg p=bN (t.getD (p+1) []) x):=ae (by rw [HPV.out];rfl);obtain ⟨y,hy⟩:∃ y,y=bN (t.getD (p+1) []) x:=⟨_,rfl⟩;rw [<-hy] at HC2 HPV2;clear ho2 hk2 hcp hcq hy;cases y with
      | none =>
       have HRN:Hid (r=none):=ae (by
        have h1:eN t arg=none:=mQ HPL.out HPV2.out;have h2:=HST.out;rw [h1] at h2;rw [HR.out];unfold fE;rw [oP h2];rfl)
       go_wp2_with fail;refine HC2.out.mono ?_;rintro e w3 ⟨he,hk3⟩;unfold dy at he;subst he;have HK3:=ae (HK2.out.trans hk3);have hcq3:=hk3.cell hcq2;have hf3:=(HO2.out.kept hk3).free (p+1);have HB3:=ae (HK3.out.store (Nat.le_refl _) (p+1) (.slice none 0 0));clear hk3 hcq2;rw [aA (show (4:Nat)≠0 by decide)];go_wp2;go_ret2;exact ⟨by rw [HRN.out];rfl,HB3.out⟩
      | some y =>
       go_wp2_with fail;refine HC2.out.mono ?_;rintro e w3 ⟨⟨v3,rfl,ho3⟩,hk3⟩;obtain ⟨xa,xn,xc,rfl⟩:=ho3.1.ints.shape;have HK3:=ae (HK2.out.trans hk3);have hcq3:=hk3.cell hcq2;have hf3:=(HO2.out.kept hk3).free (p+1);have HVN:=ae (HV.out.step HPL.out HPV2.out);have hos:=(HO2.out.kept hk3).store (HO2.out.kept hk3).len (p+1) (ho3.mono (Nat.zero_le _));have HO4:=ae hos;have HK4:=ae (HK3.out.store (Nat.le_refl _) (p+1) (.slice xa xn xc));clear hk3 hcq2 ho3 hos;go_wp2_with fail;go_roundg p
       case measure=>omega
       case rel=>exact ⟨p,t'.set (p+1) y,by omega,by go_num,Nat.le_refl _,HVN,HO4,HK4⟩
    ·have hj9:j=0:=by omega
     subst hj9;have HGN:Hid (gz ([0] :: List.replicate m []) (args.take (q+1))=some t'):=ae (by rw [HST.out];exact HV.out.done (by have:=HTL.out;omega));have HTL2:Hid (t'.length=m+1):=ae (by rw [HV.out.1];exact HTL.out);go_wp2_with fail;go_roundg (n - (q+1))
     case measure=>omega
     case rel=>exact ⟨q+1,t',by omega,by go_num,Nat.le_refl _,HTL2,HOI,HGN,HKi⟩
  ·have hqn:¬ (q:Int)<(n:Int):=by omega
   have HRS:Hid (r=some (t.getD m [])):=ae (by
    have h:=HG.out;rw [List.take_of_length_le (by have:=HN.out;omega)] at h;rw [HR.out];unfold fE;rw [h];rfl)
   obtain ⟨um,hcm,hum⟩:=HOT.out.cell m (by have:=HTL.out;omega)
   have HUM:Hid (aJ wr 0 um (t.getD m [])):=ae (by
    have e:t.getD m []=t[m]'(by have:=HTL.out;omega):=by simp [List.getD_eq_getElem?_getD,show m<t.length by have:=HTL.out;omega]
    rw [e];exact hum)
   have hmm:(m:Int)<(m:Int)+1:=by omega
   have hm0:(0:Int)<=(m:Int):=by omega
   clear hum;go_wp2;go_ret2;exact ⟨by rw [HRS.out];exact ⟨_,rfl,HUM.out⟩,HK.out⟩
def dN (w:World) (B:Nat) (v:Value) (xs:List Nd):Prop :=
 ∃ cells:List Value,w.ownsRow B 106 3 v xs.length cells/\xs.length<=1000 /\
  ∀ i (h:i<xs.length),∃ u,cells[i*3]?=some (.int .i64 xs[i].kind)/\cells[i*3+1]?=some (.int .i64 xs[i].k)/\cells[i*3+2]?=some u/\OwnInts w 0 u xs[i].args
theorem dN.slice {w:World} {B:Nat} {v:Value} {xs:List Nd} (h:dN w B v xs):∃ a c,v=.slice a xs.length c:=by
 obtain ⟨cells,⟨_,h⟩,_⟩:=h;rcases h with ⟨rfl,h0⟩ | ⟨g,cp,_,rfl,_⟩
 ·exact ⟨none,0,by rw [h0]⟩
 ·exact ⟨_,_,rfl⟩
theorem dN.at {w:World} {B:Nat} {v:Value} {xs:List Nd} (h:dN w B v xs):aG w v xs:=by
 obtain ⟨cells,⟨h1,h2⟩,h3,h4⟩:=h;rcases h2 with ⟨rfl,h6⟩ | ⟨g,cap,cur,rfl,h6,h7,h8,h9,h10,h11⟩
 ·have:xs=[]:=List.eq_nil_of_length_eq_zero h6
  subst this;exact ⟨none,0,rfl,⟨by simp,fun _=>rfl⟩,by simp,fun i h=>by simp at h⟩
 ·refine ⟨some ⟨g,0,none⟩,cap,rfl,⟨h8,fun h=>by cases h⟩,by omega,fun i hi=>⟨g,0,rfl,?_⟩⟩;obtain ⟨u,a,b,c,d⟩:=h4 i hi
  have hc:∀ j,j<xs.length*3->w.cell? ⟨g,0+j,none⟩=cells[j]?:=by
   intro j hj;have e1:(cur.toList.take (xs.length*3))[j]?=cells[j]?:=by rw [h11]
   rw [List.getElem?_take_of_lt hj] at e1;simp only [World.cell?,h7,Nat.zero_add];simpa using e1
  refine ⟨u,?_,?_,?_,d.ints⟩
  ·rw [hc _ (by omega)];exact a
  ·rw [Nat.add_assoc,hc _ (by omega)];exact b
  ·rw [Nat.add_assoc,hc _ (by omega)];exact c
def dM (w:World) (B:Nat) (v:Value) (xs:List Nd):Prop :=
 ∃ cells:List Value,w.ownsRow B 106 3 v xs.length cells/\xs.length<=1000 /\
  ∀ i (h:i<xs.length),∃ u,cells[i*3]?=some (.int .i64 xs[i].kind)/\cells[i*3+1]?=some (.int .i64 xs[i].k)/\cells[i*3+2]?=some u/\OwnInts w B u xs[i].args
theorem dM.kept {w w':World} {B:Nat} {v:Value} {xs:List Nd} (h:dM w B v xs) (hk:af w w'):dM w' B v xs:=by
 obtain ⟨cells,h1,h2,h3⟩:=h;exact ⟨cells,eF h1 hk,h2,fun i hi=>let ⟨u,a,b,c,d⟩:=h3 i hi;⟨u,a,b,c,d.kept hk⟩⟩
theorem OwnInts.belowS {w:World} {B:Nat} {v:Value} {xs:List Int} (h:OwnInts w B v xs) {a:Addr} (ha:a.block<B) (u:Value):OwnInts (w.setCell a u) B v xs:=⟨ownsRow_setCell_below h.1 ha u,h.2⟩
theorem dM.below {w:World} {B:Nat} {v:Value} {xs:List Nd} (h:dM w B v xs) {a:Addr} (ha:a.block<B) (u:Value):dM (w.setCell a u) B v xs:=by
 obtain ⟨cells,h1,h2,h3⟩:=h;exact ⟨cells,ownsRow_setCell_below h1 ha u,h2,fun i hi=>let ⟨u1,a1,b1,c1,d1⟩:=h3 i hi;⟨u1,a1,b1,c1,d1.belowS ha u⟩⟩
theorem dM.nodes {w:World} {B:Nat} {v:Value} {xs:List Nd} (h:dM w B v xs):dN w B v xs:=by
 obtain ⟨cells,h1,h2,h3⟩:=h;exact ⟨cells,h1,h2,fun i hi=>let ⟨u,a,b,c,d⟩:=h3 i hi;⟨u,a,b,c,d.mono (Nat.zero_le _)⟩⟩
theorem dM.slice {w:World} {B:Nat} {v:Value} {xs:List Nd} (h:dM w B v xs):∃ a c,v=.slice a xs.length c:=h.nodes.slice
theorem CN {ops:Array Oper} {rest:List Oper} {o:Oper} {a:Act} {Q:Exit->Act->World->Prop} {w:World} (hgd:o.guard=none) (s x:Operand)
  (ho:o.op=.call { callee:=.builtin .append,args:=#[s,x],argTypes:=#[39,39] }) (B:Nat) (v:Value) (xs:List Nd) (hs:a.eval s=v) (hown:dM w B v xs)
  (g:Nat) (y:Nd) (u:Value) (hx:a.eval x=.slice (some ⟨g,0,none⟩) 1 1) (hc:w.rangeAt g 0 [.int .i64 y.kind,.int .i64 y.k,u]) (hu:OwnInts w B u y.args) (hl:xs.length<1000) (hB:B<=w.heap.size)
  (h:∀ v' w',dM w' B v' (xs++[y])->w.grownBy w' v.ownBlock->Below B w w'->wpList Tryz.prog ops Q rest (a.put o.dst v') w'):wpList Tryz.prog ops Q (o :: rest) a w:=by
 obtain ⟨i0,hi0,hz0,hz1,hz2⟩:=info_parts qd;obtain ⟨cells,hown1,hkl,hcell⟩:=hown;obtain ⟨sa,sn,sc,rfl⟩:=hu.ints.shape;refine wpList_append_own _ hgd s x 39 ho B 106 i0 _ 3 40 Tryz.underlying39 hi0 hz0 hz1 hz2 rfl (by decide) v xs.length cells hs hown1 ⟨g,0,none⟩ 1 1 [.int .i64 y.kind,.int .i64 y.k,.slice sa sn sc] hx rfl ?_ ?_ (by unfold maxLen;omega) (by omega) hB ?_
 ·intro j u hj;have:=hc j u hj;rw [Addr.add_mid];exact this
 ·intro u hu;simp at hu;rcases hu with rfl | rfl | rfl <;> rfl
 ·intro v' w' h3 h4 _;have tag:∀ {u:Value} {zs:List Int},OwnInts w B u zs->OwnInts w' B u zs:=fun hz=>⟨xj hz.1 hown1 (by decide) (fun k hk hne=>h4.block k hk hne),hz.2⟩
  refine h v' w' ⟨cells++[.int .i64 y.kind,.int .i64 y.k,.slice sa sn sc],by simpa using h3,by simp;omega,?_⟩ h4 (bf h4 hown1 hB);intro i hi;simp at hi;have hcl:cells.length=xs.length*3:=hown1.1;by_cases hik:i<xs.length
  ·obtain ⟨u,e0,e1,e2,e3⟩:=hcell i hik;rw [List.getElem_append_left hik];refine ⟨u,?_,?_,?_,tag e3⟩
   ·rw [List.getElem?_append_left (by omega),e0]
   ·rw [List.getElem?_append_left (by omega),e1]
   ·rw [List.getElem?_append_left (by omega),e2]
  ·have e:i=xs.length:=by omega
   subst e;rw [List.getElem_append_right (Nat.le_refl _)];simp only [Nat.sub_self,List.getElem_cons_zero];refine ⟨.slice sa sn sc,?_,?_,?_,tag hu⟩
   ·rw [List.getElem?_append_right (by omega),hcl];simp
   ·rw [List.getElem?_append_right (by omega),hcl];simp
   ·rw [List.getElem?_append_right (by omega),hcl];simp
structure TInvN (w1 w3 wr:World) (g V n k:Nat) (ov:Value) (tl:List Int) (ks:List Nd) (mark:List Bool):Prop where
 tlen:tl.length=V+n
 tren:∀ a,(a<V\/(a<V+k/\mark.getD a false=true))->tl.getD a 0=mU V mark (a:Int)
 row:ai wr (w1.heap.size+1) 3 (tl.map (.int .i64))
 box:ai wr w1.heap.size 41 [.int .i64 V,ov,.int .i64 0]
 own:dM wr w3.heap.size ov ks
 marks:ai wr g 4 (mark.map .bool)
 kept:af w1 wr
 size:w3.heap.size<=wr.heap.size
theorem xq {V:Nat} {mark:List Bool} {a:Nat} (h:a<V):mU V mark (a:Int)=(a:Int):=by unfold mU;rw [if_pos (by omega)]
theorem tJ {V:Nat} {mark:List Bool} {k:Nat}:mU V mark ((V+k:Nat):Int)=((V+fI V mark k:Nat):Int):=by
 unfold mU;rw [if_neg (by omega),show (((V+k:Nat):Int) - (V:Int)).toNat=k by omega]
theorem TInvN.skip {w1 w3 wr:World} {g V n k:Nat} {ov:Value} {tl:List Int} {ks:List Nd} {mark:List Bool} (h:TInvN w1 w3 wr g V n k ov tl ks mark) (hm:mark.getD (V+k) false=false):TInvN w1 w3 wr g V n (k+1) ov tl ks mark :=
 ⟨h.tlen,fun a ha=>h.tren a (by
  rcases ha with ha | ⟨ha,hb⟩
  ·exact .inl ha
  ·by_cases e:a=V+k
   ·rw [e,hm] at hb;cases hb
   ·exact .inr ⟨by omega,hb⟩),h.row,h.box,h.own,h.marks,h.kept,h.size⟩
theorem ym {w1 w3 wo wr w6:World} {g V n k:Nat} {ov nv:Value} {tl:List Int} {ks:List Nd} {R:List Bool} {y:Nd} {cs:Array Value} (hI:TInvN w1 w3 wo g V n k ov tl ks R) (hK:af wo wr) (h1:w1.heap.size+1<w3.heap.size) (hg:w1.heap.size+1<g) (hg3:g<w3.heap.size) (hkn:k<n) (hks:ks.length=fI V R k)
  (h6:dM w6 w3.heap.size nv (ks++[y])) (hg6:((wr.setCell ⟨w1.heap.size+1,V+k,none⟩ (.int .i64 ((V:Int)+(ks.length:Int)))).alloc (.cells cs 106)).grownBy w6 ov.ownBlock) :
  TInvN w1 w3 (w6.setCell ⟨w1.heap.size,1,none⟩ nv) g V n (k+1) nv (tl.set (V+k) ((V:Int)+(ks.length:Int))) (ks++[y]) R:=by
 have hs:=hK.size;have hs3:=hI.size;obtain ⟨t,ht⟩:∃ t:Int,t=(V:Int)+(ks.length:Int):=⟨_,rfl⟩;have htr:mU V R ((V+k:Nat):Int)=t:=by rw [tJ,ht,hks];omega
 rw [<-ht] at hg6⊢
 have hown:∀ j,j<w3.heap.size->some j≠ov.ownBlock:=by
  intro j hj e;obtain ⟨cells,ho,_⟩:=hI.own;have:=(ho.lt _ e.symm).1;omega
 have hb:∀ j,j<w3.heap.size->w6.heap[j]?=(wr.setCell ⟨w1.heap.size+1,V+k,none⟩ (.int .i64 t)).heap[j]?:=by
  intro j hj;have l1:(wr.setCell ⟨w1.heap.size+1,V+k,none⟩ (.int .i64 t)).heap.size=wr.heap.size:=by simp [World.setCell]
  exact (hg6.block j (by simp;omega) (hown j hj)).trans (Below.heap_alloc _ _ j (by omega))
 have hrow:=(hI.row.kept hK).store (V+k) (.int .i64 t);rw [<-List.map_set] at hrow;have hbox:=((hI.box.kept hK).other (p:=w1.heap.size+1) (by omega) (V+k) (.int .i64 t));have hmk:=((hI.marks.kept hK).other (p:=w1.heap.size+1) (by omega) (V+k) (.int .i64 t));refine ⟨by rw [List.length_set];exact hI.tlen,fun a ha=>?_,?_,?_,h6.below (by show w1.heap.size<_;omega) _,?_,?_,?_⟩
 ·by_cases e:a=V+k
  ·subst e;rw [List.getD_eq_getElem?_getD,List.getElem?_set_self (by rw [hI.tlen];omega),Option.getD_some];exact htr.symm
  ·rw [List.getD_eq_getElem?_getD,List.getElem?_set_ne (Ne.symm e),<-List.getD_eq_getElem?_getD];exact hI.tren a (ha.imp id fun h=>⟨by omega,h.2⟩)
 ·exact (hrow.same (hb _ (by omega))).other (by omega) _ _
 ·have:=(hbox.same (hb _ (by omega))).store 1 nv;simpa using this
 ·exact (hmk.same (hb _ (by omega))).other (by omega) _ _
 ·have l1:(wr.setCell ⟨w1.heap.size+1,V+k,none⟩ (.int .i64 t)).heap.size=wr.heap.size:=by simp [World.setCell]
  have k1:af w1 (wr.setCell ⟨w1.heap.size+1,V+k,none⟩ (.int .i64 t)):=(hI.kept.trans hK).store (by omega) _ _;have k2:af w1 w6:=(k1.alloc _).app ⟨hg6.os,hg6.tape,hg6.output,hg6.size,fun j hj=>hg6.block j (by simp;omega) (hown j (by omega))⟩;exact k2.store (Nat.le_refl _) _ _
 ·have l1:(wr.setCell ⟨w1.heap.size+1,V+k,none⟩ (.int .i64 t)).heap.size=wr.heap.size:=by simp [World.setCell]
  have:=hg6.size;simp at this;simp [World.setCell] at this⊢;omega
theorem ji {V T:Nat} {f:Fm} (hok:Ok f V T):(aQ V T f.nodes).getD T false=true:=by
 refine eR V f.nodes _ _ _ ?_;rw [List.getD_eq_getElem?_getD,List.getElem?_set_self (by simpa using hok.tlt)];rfl
theorem dN.mono {w:World} {B B':Nat} {v:Value} {xs:List Nd} (h:dN w B v xs) (hb:B'<=B):dN w B' v xs:=by
 obtain ⟨cells,h1,h2⟩:=h;exact ⟨cells,lh h1 hb,h2⟩
theorem DI (V n a:Nat) (h:a<V):(xB V n V).getD a 0=(a:Int):=by
 unfold xB;rw [List.getD_eq_getElem?_getD,List.getElem?_append_left (by simpa using h)];simp [h]
theorem pJ (V:Nat) (R:List Bool) (args:List Int) (p:Nat) (h:p<args.length):(args.take (p+1)).map (mU V R)=(args.take p).map (mU V R)++[mU V R args[p]]:=by
 rw [List.take_succ_eq_append_getElem h,List.map_append];rfl
theorem zv (v:Value) (f:Fm) (V T:Nat) (w:World) (hv:aG w v f.nodes) (hok:Ok f V T) (hck:di f=0) :
  Calls Tryz.prog 81 #[.agg #[.int .i64 V,v,.int .i64 T]] w fun e w'=>∃ tv,e=.returned (.tuple #[.agg #[.int .i64 V,tv,.int .i64 (mU V (aQ V T f.nodes) (T:Int))],.nilIface])/\dN w' w.heap.size tv (aY V (aQ V T f.nodes) f.nodes f.nodes.length)/\af w w':=by
 have hchk:=dE v f w hv (by rw [hok.top];have:=hok.tlt;have:=hok.n128;have:=hok.v24;omega);rw [hck] at hchk;unfold jo at hchk;rw [hok.vars,hok.top] at hchk;have HCH:=ae (fun W (hk:af w W)=>dE v f W (hv.kept hk) (by rw [hok.top];have:=hok.tlt;have:=hok.n128;have:=hok.v24;omega));have HBL:=ae (fun W (hk:af w W)=>pK v f V T W (hv.kept hk) hok);have HV:=ae hv;obtain ⟨a,c,rfl,_,hl,hx⟩:=hv;obtain ⟨n,hn⟩:∃ n,n=f.nodes.length:=⟨_,rfl⟩;rw [<-hn] at hl HCH HBL;have hn9:n<=128:=by rw [hn];exact hok.n128
 have hV9:=hok.v24;have hT9:T<V+n:=by rw [hn];exact hok.tlt
 have E1:=ae (show jo (.slice a n c) f=.agg #[.int .i64 V,.slice a n c,.int .i64 T] by unfold jo;rw [hok.vars,hok.top]);have hch2:∀ W,af w W->Calls Tryz.prog 30 #[.agg #[.int .i64 V,.slice a n c,.int .i64 T]] W fun e w'=>e=.returned (aV (di f))/\af W w':=fun W hk=>by have:=HCH.out W hk;rw [E1.out] at this;exact this
 have HCH2:=ae hch2;clear hch2;clear HCH E1;have E2:=ae (show aV (di f)=.nilIface by rw [hck];rfl);have HX:=ae hx;have HN:=ae hn;have HO:=ae hok;have HCL:=ae (dh V T f hok);have HTM:=ae (ji hok);rw [<-hn];clear hx hn hok hl hck hchk;go_enter Tryz.func81,Tryz.ntmps81
 go_wp2_with (first
  | (go_at_call 30;refine (HCH2.out _ (((af.refl _).alloc _).alloc _)).mono ?_;rintro e w1 ⟨rfl,hk1⟩;rw [E2.out];have hs1:=hk1.size;simp only [World.size_alloc] at hs1;have ls0:w.heap.size<w1.heap.size:=(by omega);have ls1:w.heap.size+1<w1.heap.size:=(by omega);have b0:=hk1.cell (p:=⟨w.heap.size,0,none⟩) (v:=.int .i64 V) (by simp);have b1:=hk1.cell (p:=⟨w.heap.size,1,none⟩) (v:=.slice a n c) (by simp);have b2:=hk1.cell (p:=⟨w.heap.size,2,none⟩) (v:=.int .i64 T) (by simp))
  | (at_make;refine db 22 3 _ 8 fw Tryz.underlying22 rfl rfl _ _ rfl (V+n) (by show Value.int .i64 ((V:Int)+(n:Int))=.int .i64 ((V+n:Nat):Int);rw [Int.natCast_add]) (by show Value.int .i64 ((V:Int)+(n:Int))=.int .i64 ((V+n:Nat):Int);rw [Int.natCast_add]) (by omega) (by unfold maxLen;omega) ?_;intro w2 hr2 hk2;simp only [World.size_alloc] at hr2;have HR2:=ae hr2;clear hr2;have hk02:=(hk1.trans ((af.refl _).alloc _)).trans hk2;have d0:=hk02.cell (p:=⟨w.heap.size,0,none⟩) (v:=.int .i64 V) (by simp)))
 go_loopw [7,32] (fun _ i wr=>∃ k:Nat,k<=V/\i=.int .i64 k/\ai wr (w1.heap.size+1) 3 ((xB V n k).map (.int .i64))/\af (w1.alloc (.cells #[.int .i64 V,.slice none 0 0,.int .i64 0] 41)) wr) (fun _ i _=>V - (intOf i).toNat)
 case atStart=>exact ⟨0,Nat.zero_le _,rfl,by simpa [xB] using HR2.out,hk2⟩
 case round =>
  clear hk2;obtain ⟨k,hk,rfl,hrow,hK⟩:=hrel;by_cases hlt:k<V
  ·have cY:=hrow.cell (i:=k) (by rw [List.length_map,nI V n k hk];omega);have fY:=hrow.free k;have hnew:=hrow.store k (.int .i64 k);have hKn:=hK.store (g:=w1.heap.size+1) (by simp) k (.int .i64 k);have hY1:(k:Int)<(V:Int)+(n:Int):=by omega
   have hY2:(k:Int)<((V+n:Nat):Int):=by omega
   rw [<-List.map_set,t_ V n k hlt] at hnew;have HNW:=ae hnew;have HKN:=ae hKn;clear hnew hKn hrow hK;go_wp2;go_roundw
   case rel=>exact ⟨k+1,by omega,by go_num,HNW.out,HKN.out⟩
   case measure=>simp [intOf];omega
  ·have e:k=V:=by omega
   have htl:=nI V n k hk;have HT0:Hid (∀ a:Nat,a<V->(xB V n k).getD a 0=(a:Int)):=ae (by rw [e];exact fun a h=>DI V n a h);obtain ⟨tl,htle⟩:∃ tl,tl=xB V n k:=⟨_,rfl⟩;rw [<-htle] at hrow htl HT0;have hkw:=(hk1.trans ((af.refl _).alloc _)).trans hK;have hkW:af w wr:=(((af.refl w).alloc _).alloc _).trans hkw;have q0:=hkw.cell (p:=⟨w.heap.size,0,none⟩) (v:=.int .i64 V) (by simp);have q1:=hkw.cell (p:=⟨w.heap.size,1,none⟩) (v:=.slice a n c) (by simp);have q2:=hkw.cell (p:=⟨w.heap.size,2,none⟩) (v:=.int .i64 T) (by simp);have hlt1:=hrow.lt;have HTZ:Hid (∀ a:Nat,a<V->tl.getD a 0=(a:Int)):=HT0;clear HT0;have HRO:=ae hrow;have HKK:=ae hK;have HKW:=ae hkW;have hVn:(V:Int)<=(V:Int)+(n:Int):=by omega
   have hVn2:(V:Int)<=((V+n:Nat):Int):=by omega
   clear e hrow hkw hkW hK htle;go_wp2
   go_region_held3 (fun w'=>w'.cell? ⟨w.heap.size,0,none⟩=some (.int .i64 V)/\w'.cell? ⟨w.heap.size,1,none⟩=some (.slice a n c)/\w'.cell? ⟨w.heap.size,2,none⟩=some (.int .i64 T))
    (first | go_keep | exact ⟨hk3.cell q0,hk3.cell q1,hk3.cell q2⟩)
    (first | (go_at_call 136;refine (HBL.out _ (HKW.out.drew)).mono ?_;rintro e w3 ⟨g,rfl,hg,hr3,hk3⟩))
   obtain ⟨R,hR⟩:∃ R,R=aQ V T f.nodes:=⟨_,rfl⟩;rw [<-hR] at hr3;have HR3:=ae hr3;have HRe:=ae hR;have HG3:g<w3.heap.size:=HR3.out.lt;have hg2:w1.heap.size+1<g:=by have h9:wr.heap.size<=g:=hg;omega
   have hkw3:af (w1.alloc (.cells #[.int .i64 V,.slice none 0 0,.int .i64 0] 41)) w3:=HKK.out.trans ((af.refl wr).drew.trans hk3)
   have hinv0:TInvN w1 w3 w3 g V n 0 (.slice none 0 0) tl [] R:=⟨htl,fun a ha=>by
    have hav:a<V:=by rcases ha with h | h <;> omega
    rw [HTZ.out a hav,xq hav],HRO.out.kept ((af.refl wr).drew.trans hk3),(ai.made w1 _ _).kept hkw3,⟨[],World.ownsRow_nil _ _ _ _,by simp,fun i h=>by simp at h⟩,HR3.out,((af.refl w1).alloc _).trans hkw3,Nat.le_refl _⟩
   have HI0:=ae hinv0;have HKW1:=ae hk1;clear hR hr3 hinv0 hkw3 hk3 q0 q1 q2 HRO HKK hg;by_cases hn0:n=0
   ·subst hn0;have hkW2:=HKW1.out.trans HI0.out.kept;have hbx:=HI0.out.box;have d0:=hkW2.cell (p:=⟨w.heap.size,0,none⟩) (v:=.int .i64 V) (by simp);have d2:=hkW2.cell (p:=⟨w.heap.size,2,none⟩) (v:=.int .i64 T) (by simp);have c0:=hbx.cell (i:=0) (by simp);have c1:=hbx.cell (i:=1) (by simp);have c2:=hbx.cell (i:=2) (by simp);have f2:=hbx.free 2;have hTl:T<tl.length:=by rw [HI0.out.tlen];omega
    obtain ⟨zt,hzt⟩:∃ zt:Int,zt=tl[T]:=⟨_,rfl⟩;have cT:w3.cell? ⟨w1.heap.size+1,T,none⟩=some (.int .i64 zt):=by have:=HI0.out.row.cell (i:=T) (by simpa using hTl);rw [List.getElem_map] at this;rw [hzt];exact this
    have HZT:Hid (zt=mU V R (T:Int)):=ae (by have h:=HI0.out.tren T (.inl (by omega));rw [hzt,<-h];simp [List.getD_eq_getElem?_getD,hTl]);clear hzt;have hY1:(T:Int)<(V:Int):=by omega
    have hres:ai w3 (w.heap.size+1) 41 [.int .i64 0,.slice none 0 0,.int .i64 0]:=by
     have:=(ai.made (w.alloc (.cells #[.int .i64 V,.slice a 0 c,.int .i64 T] 41)) #[.int .i64 0,.slice none 0 0,.int .i64 0] 41).kept hkW2;simpa using this
    have r0:=hres.cell (i:=0) (by simp);have r1:=hres.cell (i:=1) (by simp);have r2:=hres.cell (i:=2) (by simp);have s0:=hres.free 0;have s1:=hres.free 1;have s2:=hres.free 2;simp only [List.getElem_cons_succ,List.getElem_cons_zero] at r0 r1 r2 c0 c1 c2;have ne1:w1.heap.size≠w.heap.size+1:=by omega
    have ne2:w.heap.size+1≠w1.heap.size:=by omega
    clear hbx hres;go_wp2;refine wp_loop_rounds 1 ?_;rw [rounds_succ];go_wp2;refine bodyPost_ret (v:=.tuple #[.agg #[.int .i64 V,.slice none 0 0,.int .i64 zt],.nilIface]) ?_ rfl ⟨.slice none 0 0,?_,?_,?_⟩
    ·simp [results,Tryz.results81,go_sem,r0,r1,r2]
    ·rw [<-HRe.out,<-HZT.out]
    ·exact ⟨[],World.ownsRow_nil _ _ _ _,by simp [aY],fun i h=>by simp [aY] at h⟩
    ·have hkA:af w w3:=(((af.refl w).alloc _).alloc _).trans hkW2;exact (((hkA.store (by omega) _ _).store (by omega) _ _).store (by omega) _ _).store (by omega) _ _
   ·have hn1:0<n:=by omega
    have hn2:V<V+n:=by omega
    go_wp2;go_loopw [8,9,10,11,13,46,66] (fun _ _ _ _ _ i _ wr=>∃ (k:Nat) (ov:Value) (tl:List Int),k<=n/\i=.int .i64 k/\TInvN w1 w3 wr g V n k ov tl (aY V R f.nodes k) R) (fun _ _ _ _ _ i _ _=>n - (intOf i).toNat)
    case atStart=>exact ⟨0,_,tl,Nat.zero_le _,rfl,HI0.out⟩
    case round =>
     obtain ⟨k,ov,tl,hk,rfl,hinv⟩:=hrel;have hkW2:=HKW1.out.trans hinv.kept;have q0:=hkW2.cell (p:=⟨w.heap.size,0,none⟩) (v:=.int .i64 V) (by simp);have q1:=hkW2.cell (p:=⟨w.heap.size,1,none⟩) (v:=.slice a n c) (by simp);have q2:=hkW2.cell (p:=⟨w.heap.size,2,none⟩) (v:=.int .i64 T) (by simp);by_cases hlt:k<n
     ·have hRl:R.length=V+n:=by rw [HRe.out,om,HN.out]
      have cm:=hinv.marks.cell (i:=V+k) (by simp;omega);rw [er R (V+k) (by omega)] at cm;have hup:aY V R f.nodes (k+1)=if R.getD (V+k) false=true then aY V R f.nodes k++[oU V R (f.nodes.getD k bB)] else aY V R f.nodes k:=rfl
      have HUP:=ae hup;clear hup;cases hmk:R.getD (V+k) false with
      | false =>
       rw [hmk] at cm;have HMK:=ae hmk;have HI:=ae hinv;clear hmk hinv hkW2;go_wp2;go_roundw
       case rel=>exact ⟨k+1,ov,tl,by omega,by go_num,by rw [HUP.out,HMK.out,if_neg (by simp)];exact HI.out.skip HMK.out⟩
       case measure=>simp [intOf];omega
      | true =>
       rw [hmk] at cm;have HMK:=ae hmk;have HI:=ae hinv;clear hmk hinv;have hkx:k<f.nodes.length:=by have:=HN.out;omega
       obtain ⟨b,o,rfl,u,hc1,hc2,hc3,hI⟩:=HX.out k hkx;have hkA:af w wr:=(((af.refl w).alloc (.cells #[.int .i64 V,.slice (some ⟨b,o,none⟩) n c,.int .i64 T] 41)).alloc (.cells #[.int .i64 0,.slice none 0 0,.int .i64 0] 41)).trans hkW2;have hrange:=d_ (hkA.cell hc1) (hkA.cell hc2) (hkA.cell hc3);obtain ⟨ax,cx,rfl,_,hlx,hcx⟩:=hI;have HRG:=ae hrange;clear hc1 hc2 hc3 hrange;go_wp2_with (with_reducible refine wpList_load_mid rfl 106 _ rfl b (o+k*3) rfl _ _ HRG.out Tryz.underlying106 rfl (by kernel_rfl) ?_);obtain ⟨kd,hkd⟩:∃ x,x=f.nodes[k].kind:=⟨_,rfl⟩;obtain ⟨kk,hkk⟩:∃ x,x=f.nodes[k].k:=⟨_,rfl⟩;have hargs:=HO.out.args k hkx;have h16:=jh (HO.out.argc k hkx);obtain ⟨args,hag⟩:∃ x,x=f.nodes[k].args:=⟨_,rfl⟩;rw [<-hag] at hcx hargs hlx h16;rw [<-hkd,<-hkk,<-hag];obtain ⟨na,hna⟩:∃ x,x=args.length:=⟨_,rfl⟩;rw [<-hna] at hlx h16⊢;have HKD:=ae hkd;have HKK:=ae hkk;have HCX:=ae hcx;have HAR:=ae hargs;have HMA:Hid (∀ a∈args,R.getD a.toNat false=true):=ae (by have h:=HCL.out k hkx (by rw [<-HRe.out];exact HMK.out);rw [<-HRe.out] at h;rw [hag];exact h);have HAG:=ae hag;have HNA:=ae hna;have HKA:=ae hkA;obtain ⟨i0,hi0,hz0,hz1,hz2⟩:=info_parts fw;have I0:=ae hi0;have I1:=ae hz0;have I2:=ae hz1;have I3:=ae hz2;have sz1:w1.heap.size+1<wr.heap.size:=HI.out.row.lt
       obtain ⟨wo,rfl⟩:∃ wo:World,wo=wr:=⟨_,rfl⟩;clear hkd hkk hag hcx hargs hna hkA hkW2 hi0 hz0 hz1 hz2 q0 q1 q2 cm;go_loopw [13,66] (fun _ j wi=>∃ (p:Nat) (uv:Value) (ys:List Int),p<=na/\j=.int .i64 p/\Hid (ys=(args.take p).map (mU V R))/\OwnInts wi (wo.heap.size+2) uv ys/\ai wi (wo.heap.size+1) 106 [.int .i64 kd,.int .i64 kk,uv]/\af wo wi/\wo.heap.size+2<=wi.heap.size) (fun _ j _=>na - (intOf j).toNat)
       case atStart=>exact ⟨0,.slice none 0 0,[],Nat.zero_le _,rfl,ae (by simp),OwnInts.nil _ _,by have:=ai.made (wo.alloc (.cells #[.int .i64 kd,.int .i64 kk,.slice ax na cx] 106)) #[.int .i64 kd,.int .i64 kk,.slice none 0 0] 106;simpa using this,((af.refl _).alloc _).alloc _,by simp⟩
       case round =>
        obtain ⟨p,uv,ys,hp,rfl,HYS,hown,hrow,hK,hsz⟩:=hrel;have hysl:ys.length<=p:=by rw [HYS.out,List.length_map,List.length_take];omega
        by_cases hpn:p<na
        ·have hpx:p<args.length:=by have:=HNA.out;omega
         obtain ⟨b2,o2,rfl,hc0⟩:=HCX.out p hpx;have hcell:=(HKA.out.trans hK).cell hc0;obtain ⟨y,hy⟩:∃ y,y=args[p]:=⟨_,rfl⟩;have hy2:=HAR.out args[p] (List.getElem_mem _);have hym:=HMA.out args[p] (List.getElem_mem _);have hyr:=pJ V R args p hpx;rw [<-hy] at hcell hy2 hym hyr;obtain ⟨Y,hY⟩:=Int.eq_ofNat_of_zero_le hy2.1;subst hY;have hYl:Y<tl.length:=by rw [HI.out.tlen];omega
         have cT:=hK.cell (HI.out.row.cell (i:=Y) (by simpa using hYl));obtain ⟨z,hz⟩:∃ z,z=tl[Y]:=⟨_,rfl⟩;simp only [List.getElem_map] at cT;rw [<-hz] at cT
         have HYR:Hid (ys++[z]=(args.take (p+1)).map (mU V R)):=ae (by
          have h:=HI.out.tren Y (.inr ⟨by omega,hym⟩);have h2:tl.getD Y 0=z:=by rw [hz];simp [List.getD_eq_getElem?_getD,hYl]
          rw [hyr,<-HYS.out,<-h,h2])
         clear hym hyr;have hY1:(Y:Int)<(V:Int)+(n:Int):=by omega
         have hY2:(Y:Int)<((V+n:Nat):Int):=by omega
         have cB:=hrow.cell (i:=2) (by simp);have fB:=hrow.free 2;simp only [List.getElem_cons_succ,List.getElem_cons_zero] at cB;have hszi:wo.heap.size+1<wr.heap.size:=by omega
         have hszj:w1.heap.size+1<wr.heap.size:=by omega
         have HOWN:=ae hown;have HROW:=ae hrow;have HK:=ae hK
         have hfar:some (wo.heap.size+1)≠uv.ownBlock:=by
          intro e;have:=(hown.1.lt _ e.symm).1;omega
         have HFAR:=ae hfar;clear hc0 hy hz hown hrow hK hfar;go_wp2;go_region_law ((refine step_append_lies _ (by rfl) _ _ _ (by rfl) (wo.heap.size+2) 3 i0 _ 1 8 Tryz.underlying22 I0.out I1.out I2.out I3.out rfl (by omega) uv ys.length _ (by rfl) ((HOWN.out.1.alloc _).drew) ⟨wr.heap.size,0,none⟩ 1 1 [.int .i64 z] (by rfl) (by rfl) (World.news_of_block (cs:=#[.int .i64 z]) (t:=3) (fr:=(0,0)) (heap_alloc_new wr _)) (by simp [Value.oneCell']) (by omega) (by unfold maxLen;omega) (by omega) (by simp;omega) (wr.heap.size+1) (by simp) ?_;intro gg cap w5 hown5 hgrow hat hlt5;have st5:=hgrow.cell (a:=⟨wo.heap.size+1,2,none⟩) (v:=uv) (((af.refl wr).alloc _).cell cB) HFAR.out;have sf5:=(World.frozen?_of_block (a:=⟨wo.heap.size+1,2,none⟩) (hgrow.block (wo.heap.size+1) (by simp;omega) HFAR.out)).trans ((Below.frozen ((af.refl wr).alloc _) (p:=⟨wo.heap.size+1,2,none⟩) (by simp;omega)).trans fB)));all_goals go_wp2
         all_goals
          have R9:=rV (o:=.cells #[.int .i64 z] 3) HOWN.out HROW.out HK.out hsz (by omega) hown5 ⟨hgrow.os,hgrow.tape,hgrow.output,hgrow.size,hgrow.block⟩;go_roundw
          case rel=>exact ⟨p+1,_,_,by omega,by go_num,HYR,R9.1,R9.2.1,R9.2.2.1,R9.2.2.2⟩
          case measure=>simp [intOf];omega
        ·obtain ⟨ks,hks⟩:∃ ks,ks=aY V R f.nodes k:=⟨_,rfl⟩;have hkl:(aY V R f.nodes k).length<=k:=by rw [gR];exact wX V R k
         have HKC:Hid (ks.length=fI V R k):=ae (by rw [hks,gR]);have HYA:Hid (ys=args.map (mU V R)):=ae (by have h:=HYS.out;rwa [List.take_of_length_le (by have:=HNA.out;omega)] at h);rw [<-hks] at HI HUP hkl;have HKL:=ae (show ks.length<1000 by omega);have hkc:=(HKW1.out.trans HI.out.kept).trans hK;have q0:=hkc.cell (p:=⟨w.heap.size,0,none⟩) (v:=.int .i64 V) (by simp);have hbx:=HI.out.box.kept hK;have c5:=hbx.cell (i:=1) (by simp);have f5:=hbx.free 1;have hrt:=HI.out.row.kept hK;have cT:=hrt.cell (i:=V+k) (by simp [HI.out.tlen];omega);have fT:=hrt.free (V+k);have hY1:(V:Int)+(k:Int)<(V:Int)+(n:Int):=by omega
         have hY2:(V:Int)+(k:Int)<((V+n:Nat):Int):=by omega
         have szz:w1.heap.size<wr.heap.size:=by omega
         have hrng:wr.rangeAt (wo.heap.size+1) 0 [.int .i64 kd,.int .i64 kk,uv]:=by
          intro j v hj
          match j,hj with
          | 0,hj=>simp at hj;subst hj;exact hrow.cell (i:=0) (by simp)
          | 1,hj=>simp at hj;subst hj;exact hrow.cell (i:=1) (by simp)
          | 2,hj=>simp at hj;subst hj;exact hrow.cell (i:=2) (by simp)
         simp only [List.getElem_cons_succ,List.getElem_cons_zero] at c5;obtain ⟨oa,oc,hov⟩:=HI.out.own.slice;subst hov;obtain ⟨on,hon⟩:∃ on,on=ks.length:=⟨_,rfl⟩;rw [<-hon] at HI c5 hbx hkl HKC;obtain ⟨ua,un,uc,huv⟩:=hown.ints.shape;subst huv;have HRNG:=ae (fun x=>mS hrng (p:=w1.heap.size+1) (by omega) (V+k) x);have HRT:=ae hrt;have HBX:=ae hbx;have HK:=ae hK;have HON:=ae hon;clear hrng hrt hbx hK hkc hks hrow hon;have g3:g<w3.heap.size:=HG3;have g4:w1.heap.size+1<w3.heap.size:=by omega
         have hok1:=(HI.out.own.kept HK.out);have HOWU:=ae (fun x=>((hown.mono (show w3.heap.size<=wo.heap.size+2 by have:=HI.out.size;omega)).belowS (a:=⟨w1.heap.size+1,V+k,none⟩) (by show w1.heap.size+1<_;omega) x).kept ((af.refl _).alloc (.cells #[.int .i64 kd,.int .i64 kk,.slice ua un uc] 106)));clear hown;have HOK1:=ae (fun x=>(hok1.below (a:=⟨w1.heap.size+1,V+k,none⟩) (by show w1.heap.size+1<_;omega) x).kept ((af.refl _).alloc (.cells #[.int .i64 kd,.int .i64 kk,.slice ua un uc] 106)))
         have hne5:some w1.heap.size≠(Value.slice oa on oc).ownBlock:=by
          intro e;obtain ⟨cells,ho,_⟩:=HI.out.own;have:=(ho.lt _ e.symm).1;omega
         have HNE5:=ae hne5;have hw3r:w3.heap.size<=wr.heap.size:=Nat.le_trans HI.out.size HK.out.size;clear hok1 hne5
         go_wp2_with (first
          | (with_reducible refine wpList_load_mid rfl 106 _ rfl (wo.heap.size+1) 0 rfl _ _ (HRNG.out _) Tryz.underlying106 rfl (by kernel_rfl) ?_)
          | (at_builtin;refine CN rfl _ _ rfl w3.heap.size _ ks rfl (HOK1.out _) _ ⟨kd,kk,ys⟩ (.slice ua un uc) rfl (mR _ _ _ _ _ _ _) (HOWU.out _) HKL.out (by simp [World.setCell];omega) ?_;intro nv w6 hown6 hg6 hb6;obtain ⟨xa,xc,rfl⟩:=hown6.slice;have HOWN6:=ae hown6;clear hown6;have st5:=hg6.cell (a:=⟨w1.heap.size,1,none⟩) (v:=.slice oa on oc) (((af.refl _).alloc _).cell (jX c5 (p:=w1.heap.size+1) (by show w1.heap.size≠_;omega) _ _)) HNE5.out;have sf5:=(World.frozen?_of_block (a:=⟨w1.heap.size,1,none⟩) (hg6.block w1.heap.size (by simp [World.setCell];omega) HNE5.out)).trans (((af.refl _).alloc _).free (p:=⟨w1.heap.size,1,none⟩) (by simp [World.setCell];omega) (oh f5 (p:=w1.heap.size+1) (by show w1.heap.size≠_;omega) _ _))))
         have RI:=ym (y:=⟨kd,kk,ys⟩) HI.out HK.out g4 hg2 g3 hlt (HON.out ▸ HKC.out) HOWN6.out (by rw [<-HON.out];exact ⟨hg6.os,hg6.tape,hg6.output,hg6.size,hg6.block⟩);rw [show (ks++[(⟨kd,kk,ys⟩:Nd)]).length=ks.length+1 by simp] at RI;go_roundw
         case rel=>exact ⟨k+1,_,_,by omega,by go_num,by rw [HUP.out,HMK.out,if_pos rfl,show oU V R (f.nodes.getD k bB)=⟨kd,kk,ys⟩ by unfold oU;rw [HKD.out,HKK.out,HYA.out,HAG.out];simp [List.getD_eq_getElem?_getD,hkx]];exact RI⟩
         case measure=>simp [intOf];omega
     ·have e:k=n:=by omega
      subst e;obtain ⟨oa,oc,hov⟩:=hinv.own.slice;subst hov;have hbx:=hinv.box;have c0:=hbx.cell (i:=0) (by simp);have c1:=hbx.cell (i:=1) (by simp);have c2:=hbx.cell (i:=2) (by simp);have f2:=hbx.free 2;have hTl:T<tl.length:=by rw [hinv.tlen];omega
      obtain ⟨zt,hzt⟩:∃ zt:Int,zt=tl[T]:=⟨_,rfl⟩;have cT:wr.cell? ⟨w1.heap.size+1,T,none⟩=some (.int .i64 zt):=by have:=hinv.row.cell (i:=T) (by simpa using hTl);rw [List.getElem_map] at this;rw [hzt];exact this
      have HZT:Hid (zt=mU V R (T:Int)):=ae (by have h:=hinv.tren T (.inr ⟨by omega,by rw [HRe.out];exact HTM.out⟩);rw [hzt,<-h];simp [List.getD_eq_getElem?_getD,hTl]);clear hzt;have hY1:(T:Int)<(V:Int)+(k:Int):=by omega
      have hY2:(T:Int)<((V+k:Nat):Int):=by omega
      have hres:ai wr (w.heap.size+1) 41 [.int .i64 0,.slice none 0 0,.int .i64 0]:=by
       have:=(ai.made (w.alloc (.cells #[.int .i64 V,.slice a k c,.int .i64 T] 41)) #[.int .i64 0,.slice none 0 0,.int .i64 0] 41).kept hkW2;simpa using this
      have r0:=hres.cell (i:=0) (by simp);have r1:=hres.cell (i:=1) (by simp);have r2:=hres.cell (i:=2) (by simp);have s0:=hres.free 0;have s1:=hres.free 1;have s2:=hres.free 2;simp only [List.getElem_cons_succ,List.getElem_cons_zero] at r0 r1 r2;simp only [List.getElem_cons_succ,List.getElem_cons_zero] at c0 c1 c2;have HI:=ae hinv;have ne1:w1.heap.size≠w.heap.size+1:=by omega
      have ne2:w.heap.size+1≠w1.heap.size:=by omega
      clear hinv hbx hres;go_wp2;refine bodyPost_ret (v:=.tuple #[.agg #[.int .i64 V,.slice oa (aY V R f.nodes k).length oc,.int .i64 zt],.nilIface]) ?_ rfl ⟨.slice oa (aY V R f.nodes k).length oc,?_,?_,?_⟩
      ·simp [results,Tryz.results81,go_sem,r0,r1,r2]
      ·rw [<-HRe.out,<-HZT.out]
      ·rw [<-HRe.out];have h3:w1.heap.size+1<w3.heap.size:=by omega
       exact ((((HI.out.own.below (a:=⟨w1.heap.size,2,none⟩) (by show w1.heap.size<_;omega) _).below (a:=⟨w.heap.size+1,0,none⟩) (by show w.heap.size+1<_;omega) _).below (a:=⟨w.heap.size+1,1,none⟩) (by show w.heap.size+1<_;omega) _).below (a:=⟨w.heap.size+1,2,none⟩) (by show w.heap.size+1<_;omega) _).nodes.mono (by omega)
      ·have hkA:af w wr:=(((af.refl w).alloc _).alloc _).trans hkW2;exact (((hkA.store (by omega) _ _).store (by omega) _ _).store (by omega) _ _).store (by omega) _ _
theorem tA (k:Int) (hk:k=0\/k=1) (ua:Option Addr) (un uc:Nat) (v:Value) (fams:List (List Nat)) (w:World) :
  Calls Tryz.prog 82 #[.agg #[.int .i64 0,.int .i64 k,.slice ua un uc],v] w fun e w'=>dy w' 0 e (cI 0 k fams)/\af w w':=by
 rcases hk with rfl | rfl
 ·go_enter Tryz.func82,Tryz.ntmps82;go_wp2;go_ret2;refine ⟨⟨_,rfl,?_⟩,((af.refl _).alloc _).alloc _⟩;have:=aJ.one (w.alloc (.cells #[.int .i64 0,.int .i64 0,.slice ua un uc] 106)) 0 0 (by unfold Mk;omega) (Nat.zero_le _);simpa using this
 ·go_enter Tryz.func82,Tryz.ntmps82;go_wp2;go_ret2;exact ⟨⟨_,rfl,aJ.nil _ _⟩,(af.refl _).alloc _⟩
theorem BF (k:Int) (ua:Option Addr) (un uc:Nat) (v:Value) (fams:List (List Nat)) (w:World) (hv:fk w v fams) :
  Calls Tryz.prog 82 #[.agg #[.int .i64 3,.int .i64 k,.slice ua un uc],v] w fun e w'=>dy w' 0 e (bS aN [0] fams)/\af w w':=by
 have h:∀ W,af w W->Calls Tryz.prog 137 #[v] W fun e w'=>dy w' W.heap.size e (bS aN [0] fams)/\af W w':=fun W hk=>Dw v fams W (hv.kept hk)
 obtain ⟨r,hr⟩:∃ r,r=bS aN [0] fams:=⟨_,rfl⟩;rw [<-hr] at h⊢;have H:=ae h;clear hr hv h;cases r with
 | none =>
  go_enter Tryz.func82,Tryz.ntmps82;go_wp2_with (go_at_call 137;refine (H.out _ ((af.refl _).alloc _)).mono ?_;rintro e w5 ⟨he,hk5⟩;unfold dy at he;subst he;rw [aA (show (4:Nat)≠0 by decide)]);go_ret2;exact ⟨rfl,((af.refl _).alloc _).trans hk5⟩
 | some l =>
  go_enter Tryz.func82,Tryz.ntmps82;go_wp2_with (go_at_call 137;refine (H.out _ ((af.refl _).alloc _)).mono ?_;rintro e w5 ⟨⟨v5,rfl,ho5⟩,hk5⟩);go_ret2;exact ⟨⟨_,rfl,ho5.mono (Nat.zero_le _)⟩,((af.refl _).alloc _).trans hk5⟩
theorem yP (k:Int) (ua:Option Addr) (un uc:Nat) (v:Value) (fams:List (List Nat)) (w:World) (hv:fk w v fams) :
  Calls Tryz.prog 82 #[.agg #[.int .i64 2,.int .i64 k,.slice ua un uc],v] w fun e w'=>dy w' 0 e (bS bN [] fams)/\af w w':=by
 have h:∀ W,af w W->Calls Tryz.prog 138 #[v] W fun e w'=>dy w' W.heap.size e (bS bN [] fams)/\af W w':=fun W hk=>Bv v fams W (hv.kept hk)
 obtain ⟨r,hr⟩:∃ r,r=bS bN [] fams:=⟨_,rfl⟩;rw [<-hr] at h⊢;have H:=ae h;clear hr hv h;cases r with
 | none =>
  go_enter Tryz.func82,Tryz.ntmps82;go_wp2_with (go_at_call 138;refine (H.out _ ((af.refl _).alloc _)).mono ?_;rintro e w5 ⟨he,hk5⟩;unfold dy at he;subst he;rw [aA (show (4:Nat)≠0 by decide)]);go_ret2;exact ⟨rfl,((af.refl _).alloc _).trans hk5⟩
 | some l =>
  go_enter Tryz.func82,Tryz.ntmps82;go_wp2_with (go_at_call 138;refine (H.out _ ((af.refl _).alloc _)).mono ?_;rintro e w5 ⟨⟨v5,rfl,ho5⟩,hk5⟩);go_ret2;exact ⟨⟨_,rfl,ho5.mono (Nat.zero_le _)⟩,((af.refl _).alloc _).trans hk5⟩
theorem vD (k:Nat) (ua:Option Addr) (un uc:Nat) (v:Value) (fams:List (List Nat)) (w:World) (hv:fk w v fams) (h1:1<=k) (h2:k<=fams.length) (hl:fams.length<=900) :
  Calls Tryz.prog 82 #[.agg #[.int .i64 4,.int .i64 k,.slice ua un uc],v] w fun e w'=>dy w' 0 e (fE fams (fams.length - k+1))/\af w w':=by
 obtain ⟨m,hm⟩:∃ m,m=fams.length - k+1:=⟨_,rfl⟩;have h:∀ W,af w W->Calls Tryz.prog 139 #[v,.int .i64 m] W fun e w'=>dy w' 0 e (fE fams m)/\af W w':=fun W hk=>yT v fams m W (hv.kept hk) (by omega) (by omega)
 rw [<-hm];obtain ⟨r,hr⟩:∃ r,r=fE fams m:=⟨_,rfl⟩;rw [<-hr] at h⊢;obtain ⟨va,vc,rfl,_⟩:=hv;obtain ⟨n,hn⟩:∃ n,n=fams.length:=⟨_,rfl⟩;rw [<-hn] at h hm h2 hl⊢;have hm9:(n:Int) - (k:Int)+1=(m:Int):=by omega
 have HM:=ae hm9;have H:Hid (∀ W,af w W->Calls Tryz.prog 139 #[.slice va n vc,.int .i64 ((n:Int) - (k:Int)+1)] W fun e w'=>dy w' 0 e r/\af W w'):=ae (by rw [hm9];exact h);clear hr h hm hm9 hn;cases r with
 | none =>
  go_enter Tryz.func82,Tryz.ntmps82;go_wp2_with (go_at_call 139;refine (H.out _ ((af.refl _).alloc _)).mono ?_;rintro e w5 ⟨he,hk5⟩;unfold dy at he;subst he;rw [aA (show (4:Nat)≠0 by decide)]);go_ret2;exact ⟨rfl,((af.refl _).alloc _).trans hk5⟩
 | some l =>
  go_enter Tryz.func82,Tryz.ntmps82;go_wp2_with (go_at_call 139;refine (H.out _ ((af.refl _).alloc _)).mono ?_;rintro e w5 ⟨⟨v5,rfl,ho5⟩,hk5⟩);go_ret2;exact ⟨⟨_,rfl,ho5⟩,((af.refl _).alloc _).trans hk5⟩
theorem yQ (kind k:Int) (ua:Option Addr) (un uc:Nat) (v:Value) (fams:List (List Nat)) (w:World) (hv:fk w v fams) (h0:kind=0->k=0\/k=1) (h4:kind=4->1<=k/\k<=fams.length) (hl:fams.length<=900)
  (hk:kind=0\/kind=2\/kind=3\/kind=4) :
  Calls Tryz.prog 82 #[.agg #[.int .i64 kind,.int .i64 k,.slice ua un uc],v] w fun e w'=>dy w' 0 e (cI kind k fams)/\af w w':=by
 rcases hk with rfl | rfl | rfl | rfl
 ·exact tA k (h0 rfl) ua un uc v fams w
 ·rw [show cI 2 k fams=bS bN [] fams by unfold cI;rw [if_neg (by decide),if_pos rfl]];exact yP k ua un uc v fams w hv
 ·rw [show cI 3 k fams=bS aN [0] fams by unfold cI;rw [if_neg (by decide),if_neg (by decide),if_pos rfl]];exact BF k ua un uc v fams w hv
 ·obtain ⟨kk,hkk⟩:=Int.eq_ofNat_of_zero_le (show 0<=k by have:=h4 rfl;omega);subst hkk;have h5:=h4 rfl;rw [show cI 4 (kk:Int) fams=fE fams (fams.length - kk+1) by unfold cI;rw [if_neg (by decide),if_neg (by decide),if_neg (by decide)];rfl];exact vD kk ua un uc v fams w hv (by omega) (by omega) hl
def cu (V T:Nat) (nodes:List Nd):Option (List Nat):=(f_ V (aY V (aQ V T nodes) nodes nodes.length)).map fun l=>l.getD (mU V (aQ V T nodes) (T:Int)).toNat []
theorem yv {ops:Array Oper} {rest:List Oper} {o:Oper} {a:Act} {Q:Exit->Act->World->Prop} {w:World} (hg:o.guard=none) (l c:Operand)
  (hop:o.op=Op.makeSlice 104 l c) (m:Nat) (hl:a.eval l=.int .i64 0) (hc:a.eval c=.int .i64 m) (hb:m<=1000000)
  (hK:∀ w',OwnFams w' w.heap.size (.slice (some ⟨w.heap.size,0,none⟩) 0 m) []->af w w'->wpList Tryz.prog ops Q rest (a.put o.dst (.slice (some ⟨w.heap.size,0,none⟩) 0 m)) w'):wpList Tryz.prog ops Q (o :: rest) a w:=by
 obtain ⟨i0,hi0,hz0,hz1,hz2⟩:=info_parts l_;refine wpList_plain hg fun K hK'=>?_
 have hrun:=run_make (P:=Tryz.prog) w 104 22 i0 _ Tryz.underlying104 hi0 hz0 .i64 .i64 0 m (by omega) (by omega) (by rw [hz2];omega) (by omega);simp only [Int.toNat_natCast] at hrun;obtain ⟨w',hw'⟩:∃ w',w'=w.alloc (.cells (madeCells (Value.slice none 0 0).cells (m*i0.size)) 22):=⟨_,rfl⟩;rw [<-hw'] at hrun;unfold Oper.wp;simp [execOp,hop,hl,hc,hrun,Result.andThen];subst hw';refine hK' _ _ (hK _ ?_ ((af.refl _).alloc _));refine ⟨[],rfl,⟨by simp,.inr ⟨w.heap.size,m,_,by simp,Nat.le_refl _,heap_alloc_new w _,by simp,by unfold maxLen;omega,by rw [size_madeCells,hz1],by simp⟩⟩,by simp,fun i h=>by simp at h⟩
theorem yO (v:Value) (f:Fm) (V T:Nat) (w:World) (hv:aG w v f.nodes) (hok:Ok f V T) (hck:di f=0) :
  Calls Tryz.prog 80 #[.agg #[.int .i64 V,v,.int .i64 T]] w fun e w'=>e=.returned (aV (if cC V T f=true then 0 else 7))/\af w w':=by
 have H:=ae (fun W (hk:af w W)=>jw v f V T W (hv.kept hk) hok hck);obtain ⟨a,n,c,rfl⟩:∃ a n c,v=.slice a n c:=by obtain ⟨a,c,h,_⟩:=hv;exact ⟨a,_,c,h⟩
 clear hv hok hck;cases hs:cC V T f with
 | true =>
  rw [hs] at H;rw [if_pos rfl];clear hs;go_enter Tryz.func80,Tryz.ntmps80;go_wp2_with (go_at_call 124;refine (H.out _ ((af.refl _).alloc _)).mono ?_;rintro e w1 ⟨rfl,hk1⟩);go_ret;exact ⟨rfl,((af.refl _).alloc _).trans hk1⟩
 | false =>
  rw [hs] at H;rw [if_neg (by simp)];clear hs;go_enter Tryz.func80,Tryz.ntmps80;go_wp2_with (go_at_call 124;refine (H.out _ ((af.refl _).alloc _)).mono ?_;rintro e w1 ⟨rfl,hk1⟩);go_ret;exact ⟨rfl,((af.refl _).alloc _).trans hk1⟩
theorem rL {V k:Nat} (h:k<V):(bz V).take (k+1)=(bz V).take k++[[2^k]]:=by
 rw [List.take_succ_eq_append_getElem (by simpa [bz] using h)];simp [bz]
theorem iZ (V:Nat):(bz V).length=V:=by simp [bz]
theorem kt {V:Nat} {nodes:List Nd} {k:Nat} (hk:k<nodes.length):f_ V (nodes.take (k+1))=(f_ V (nodes.take k)).bind fun l=>fG l nodes[k]:=by
 unfold f_;rw [List.take_succ_eq_append_getElem hk,List.foldlM_append];simp [Option.bind_eq_bind]
theorem wg {V:Nat} {nodes:List Nd} {k:Nat} (h:f_ V (nodes.take k)=none):f_ V nodes=none:=by
 unfold f_ at *;rw [<-List.take_append_drop k nodes,List.foldlM_append,h];rfl
theorem rN {l r:List (List Nat)} {x:Nd} (h:fG l x=some r):r.length=l.length+1:=by
 unfold fG at h;obtain ⟨u,_,rfl⟩:=Option.map_eq_some_iff.1 h;simp
theorem zr {V:Nat} {nodes:List Nd}:∀ k,k<=nodes.length->∀ l,f_ V (nodes.take k)=some l->l.length=V+k:=by
 intro k;induction k with
 | zero=>intro _ l h;cases h;rw [iZ];rfl
 | succ k ih =>
  intro hk l h;rw [kt (by omega)] at h;obtain ⟨u,hu,h⟩:=Option.bind_eq_some_iff.1 h;rw [rN h,ih (by omega) u hu];omega
theorem tZ {V:Nat} {nodes:List Nd}:∀ k,k<=nodes.length->∀ l,f_ V (nodes.take k)=some l->∀ x∈l,x.length<=1024:=by
 intro k;induction k with
 | zero =>
  intro _ l h x hx;cases h;unfold bz at hx;obtain ⟨i,_,rfl⟩:=List.mem_map.1 hx;simp
 | succ k ih =>
  intro hk l h x hx;rw [kt (by omega)] at h;obtain ⟨u,hu,h⟩:=Option.bind_eq_some_iff.1 h;unfold fG at h;obtain ⟨y,hy,rfl⟩:=Option.map_eq_some_iff.1 h;rcases List.mem_append.1 hx with hx | hx
  ·exact ih (by omega) u hu x hx
  ·rw [List.mem_singleton] at hx;rw [hx];exact (mI hy).2
structure Fp (V:Nat) (nodes:List Nd) (top:Int):Prop where
 v24:V<=24
 n128:nodes.length<=128
 top:0<=top/\top<(V:Int)+nodes.length
 args:∀ i (h:i<nodes.length),∀ a∈nodes[i].args,0<=a/\a<(V:Int)+i
 argl:∀ i (h:i<nodes.length),nodes[i].args.length<=16
 kind:∀ i (h:i<nodes.length),nodes[i].kind=0\/nodes[i].kind=2\/nodes[i].kind=3\/nodes[i].kind=4
 zero:∀ i (h:i<nodes.length),nodes[i].kind=0->nodes[i].k=0\/nodes[i].k=1
 vote:∀ i (h:i<nodes.length),nodes[i].kind=4->1<=nodes[i].k/\nodes[i].k<=nodes[i].args.length
theorem km (v:Value) (f:Fm) (V T:Nat) (w:World) (hv:aG w v f.nodes) (hok:Ok f V T) (hck:di f=0) (hs:cC V T f=true) (ht:Fp V (aY V (aQ V T f.nodes) f.nodes f.nodes.length) (mU V (aQ V T f.nodes) (T:Int))) :
  Calls Tryz.prog 36 #[.agg #[.int .i64 V,v,.int .i64 T]] w fun e w'=>dy w' 0 e (cu V T f.nodes)/\af w w':=by
 have HCH:Hid (∀ W,af w W->Calls Tryz.prog 80 #[.agg #[.int .i64 V,v,.int .i64 T]] W fun e w'=>e=.returned .nilIface/\af W w'):=ae fun W hk=>by
  have h:=yO v f V T W (hv.kept hk) hok hck;rw [hs,if_pos rfl,aH] at h;exact h
 have HTR:=ae (fun W (hk:af w W)=>zv v f V T W (hv.kept hk) hok hck);obtain ⟨r,hr⟩:∃ r,r=cu V T f.nodes:=⟨_,rfl⟩;rw [<-hr];unfold cu at hr;obtain ⟨nds,hnds⟩:∃ nds,nds=aY V (aQ V T f.nodes) f.nodes f.nodes.length:=⟨_,rfl⟩;obtain ⟨top,htop⟩:∃ top,top=mU V (aQ V T f.nodes) (T:Int):=⟨_,rfl⟩;rw [<-hnds,<-htop] at hr HTR ht;obtain ⟨T2,rfl⟩:=Int.eq_ofNat_of_zero_le ht.top.1;have HR:=ae hr;have HT:=ae ht;obtain ⟨va,vn,vc,rfl⟩:∃ a n c,v=.slice a n c:=by obtain ⟨a,c,h,_⟩:=hv;exact ⟨a,_,c,h⟩
 obtain ⟨m,hm⟩:∃ m,m=nds.length:=⟨_,rfl⟩;have HM:=ae hm;have hV24:=ht.v24;have hm128:m<=128:=by rw [hm];exact ht.n128
 have hTm:T2<V+m:=by have:=ht.top.2;omega
 obtain ⟨w1,hw1⟩:∃ w1,w1=w.alloc (.cells #[.int .i64 V,.slice va vn vc,.int .i64 T] 41):=⟨_,rfl⟩;have hr1:=ai.made w #[.int .i64 V,.slice va vn vc,.int .i64 T] 41;rw [<-hw1] at hr1;have HR1:=ae hr1;have HK1:Hid (af w w1):=ae (by rw [hw1];exact (af.refl w).alloc _);have HW1:=ae hw1;clear hv hok hck hs ht hr hnds htop hm hw1 hr1;go_enter Tryz.func36,Tryz.ntmps36;go_wp2_with fail;rw [<-HW1.out];refine (HCH.out _ HK1.out).mono ?_;rintro e w2 ⟨rfl,hk2⟩;have HK2:=ae (HK1.out.trans hk2);have b0:=(HR1.out.kept hk2).cell (i:=0) (by simp);have b1:=(HR1.out.kept hk2).cell (i:=1) (by simp);have b2:=(HR1.out.kept hk2).cell (i:=2) (by simp);simp only [List.getElem_cons_succ,List.getElem_cons_zero] at b0 b1 b2;clear hk2;go_wp2_with fail;refine (HTR.out _ HK2.out).mono ?_;rintro e w3 ⟨tv,rfl,hnd,hk3⟩;have HK3:=ae (HK2.out.trans hk3);obtain ⟨ta,tc,rfl⟩:=hnd.slice;rw [<-HM.out] at hnd⊢;obtain ⟨_,_,etv,_,_,hx⟩:=hnd.at
 have HX:Hid (∀ i (h:i<nds.length),∃ b o,ta=some ⟨b,o,none⟩/\∃ u,w3.cell? ⟨b,o+i*3,none⟩=some (.int .i64 nds[i].kind)/\w3.cell? ⟨b,o+i*3+1,none⟩=some (.int .i64 nds[i].k)/\w3.cell? ⟨b,o+i*3+2,none⟩=some u/\am w3 u nds[i].args):=ae (by
  cases etv;intro i hi;obtain ⟨b,o,h1,u,h2,h3,h4,h5⟩:=hx i hi;exact ⟨b,o,h1,u,h2,h3,h4,h5⟩)
 clear hnd hx etv b0 b1 b2;obtain ⟨w4,hw4⟩:∃ w4,w4=w3.alloc (.cells #[.int .i64 V,.slice ta m tc,.int .i64 T2] 41):=⟨_,rfl⟩;have hr4:=ai.made w3 #[.int .i64 V,.slice ta m tc,.int .i64 T2] 41;rw [<-hw4] at hr4;have HR4:=ae hr4;have HK34:Hid (af w3 w4):=ae (by rw [hw4];exact (af.refl w3).alloc _);have HK4:=ae (HK3.out.trans HK34.out);have HW4:=ae hw4;have b0:=hr4.cell (i:=0) (by simp);have b1:=hr4.cell (i:=1) (by simp);simp only [List.getElem_cons_succ,List.getElem_cons_zero] at b0 b1;clear hw4 hr4 hk3;go_wp2_with (rw [<-HW4.out];at_make;refine yv rfl _ _ rfl (V+m) rfl (by show Value.int .i64 ((V:Int)+m)=.int .i64 ((V+m:Nat):Int);rw [Int.natCast_add]) (by omega) ?_;intro w5 ho5 hk5;have HO5:=ae ho5;have HK45:=ae hk5;have c0:=hk5.cell b0;clear ho5 hk5);go_loopg [7,38] V (fun kx s7 s38 wr=>∃ k:Nat,k<=V/\s38=.int .i64 k/\V - k<=kx/\Hid (OwnFams wr w4.heap.size s7 ((bz V).take k))/\Hid (af w4 wr))
 case atStart=>exact ⟨0,Nat.zero_le _,rfl,by omega,HO5,HK45⟩
 case round =>
  obtain ⟨k,hk,rfl,hkx,HO,HKr⟩:=hrel;by_cases hlt:k<V
  ·have hkV:(k:Int)<(V:Int):=by omega
   have HST:=ae (rL hlt);have HSL:Hid (((bz V).take k).length<=24):=ae (by rw [List.length_take,iZ];omega);have hz:=HKr.out.size;go_wp2_with (at_builtin;refine qT rfl _ _ rfl w4.heap.size _ ((bz V).take k) rfl (HO.out.kept (((af.refl _).alloc _).alloc _)) _ _ [2^k] rfl (by simp) ((aJ.shl wr k (by omega)).kept ((af.refl _).alloc _)) (by have:=HSL.out;omega) (by simp;omega) ?_;intro nv' w7 hown7 hg7 hb7;have O7:=ae hown7;have HK7:=ae (((HKr.out.alloc _).alloc _).app (hb7.mono (by simp)));clear hown7 hg7 hb7);go_roundg (V - (k+1))
   case measure=>omega
   case rel=>exact ⟨k+1,by omega,by go_num,Nat.le_refl _,ae (by rw [HST.out];exact O7.out),HK7⟩
  ·have hkV:¬ (k:Int)<(V:Int):=by omega
   have HO2:Hid (OwnFams wr w4.heap.size u7 (bz V)):=ae (by
    have h:=HO.out
    rwa [List.take_of_length_le (by rw [iZ];omega)] at h)
   have d1:=HKr.out.cell b1;obtain ⟨w6,rfl⟩:∃ w6:World,w6=wr:=⟨_,rfl⟩;clear HO;go_wp2_with fail;go_loopg [7,51] m (fun kx s7 s51 wq=>∃ (j:Nat) (l:List (List Nat)),j<=m/\s51=.int .i64 j/\m - j<=kx/\Hid (f_ V (nds.take j)=some l)/\Hid (OwnFams wq w4.heap.size s7 l)/\Hid (af w4 wq))
   case atStart=>exact ⟨0,bz V,Nat.zero_le _,rfl,by omega,ae rfl,HO2,HKr⟩
   case round =>
    obtain ⟨j,l,hj,rfl,hjx,HL,HOL,HKq⟩:=hrel;have hll:=zr j (by have:=HM.out;omega) l HL.out;have HLL:=ae hll;clear hll;by_cases hjm:j<m
    ·have hjn:(j:Int)<(m:Int):=by omega
     have hjl:j<nds.length:=by have:=HM.out;omega
     obtain ⟨b,o,rfl,u,hc1,hc2,hc3,hI⟩:=HX.out j hjl;have hK3q:=HK34.out.trans HKq.out;have hrange:=d_ (hK3q.cell hc1) (hK3q.cell hc2) (hK3q.cell hc3);have hI2:=hI.kept hK3q;obtain ⟨ax,cx,rfl,_,hlx,hcx⟩:=hI2;have hst:=kt (V:=V) hjl;rw [HL.out] at hst;simp only [Option.bind_some] at hst;have hargs:=HT.out.args j hjl;have hargl:=HT.out.argl j hjl;have hkind:=HT.out.kind j hjl;have hzero:=HT.out.zero j hjl;have hvote:=HT.out.vote j hjl;obtain ⟨x,hxx⟩:∃ x,x=nds[j]:=⟨_,rfl⟩;rw [<-hxx] at hrange hcx hlx hst hargs hargl hkind hzero hvote;obtain ⟨kd,kk,args⟩:=x;simp only at hrange hcx hlx hst hargs hargl hkind hzero hvote;obtain ⟨na,hna⟩:∃ na,na=args.length:=⟨_,rfl⟩;rw [<-hna] at hlx hrange hargl;have HNA:=ae hna;have HRG:=ae hrange;have HCX:=ae hcx;have HST:=ae hst;have HAR:=ae hargs;have HKD:=ae hkind;have HZE:=ae hzero;have HVO:=ae hvote;obtain ⟨w7,hw7⟩:∃ w7,w7=wr.alloc (.cells #[.int .i64 kd,.int .i64 kk,.slice ax na cx] 106):=⟨_,rfl⟩;have hr7:=ai.made wr #[.int .i64 kd,.int .i64 kk,.slice ax na cx] 106;rw [<-hw7] at hr7;have HK67:Hid (af wr w7):=ae (by rw [hw7];exact (af.refl wr).alloc _);have HK7:=ae (HKq.out.trans HK67.out);have HR7:=ae hr7;have HW7:=ae hw7;have e2:=hr7.cell (i:=2) (by simp);simp only [List.getElem_cons_succ,List.getElem_cons_zero] at e2
     clear hc1 hc2 hc3 hI hrange hcx hst hargs hkind hzero hvote hxx hna hw7 hr7 hK3q;go_wp2_with (with_reducible refine wpList_load_mid rfl 106 _ rfl b (o+j*3) rfl _ _ HRG.out Tryz.underlying106 rfl (by kernel_rfl) ?_);rw [<-HW7.out];obtain ⟨wo,rfl⟩:∃ wo:World,wo=wr:=⟨_,rfl⟩;go_loopg [11,58] na (fun px s11 s58 wi=>∃ (p:Nat) (acc:List (List Nat)),p<=na/\s58=.int .i64 p/\na - p<=px/\Hid (acc=(args.take p).map fun a=>l.getD a.toNat [])/\Hid (OwnFams wi w7.heap.size s11 acc)/\Hid (af w7 wi))
     case atStart=>exact ⟨0,[],Nat.zero_le _,rfl,by omega,ae rfl,ae (OwnFams.nil _ _),ae (af.refl _)⟩
     case round =>
      obtain ⟨p,acc,hp,rfl,hpx,HA,HAC,HKp⟩:=hrel;have HKop:=ae (HK67.out.trans HKp.out);by_cases hpn:p<na
      ·have hpl:p<args.length:=by have:=HNA.out;omega
       have hpi:(p:Int)<(na:Int):=by omega
       obtain ⟨b2,o2,rfl,hc0⟩:=HCX.out p hpl;have hcell:=HKop.out.cell hc0;obtain ⟨y,hy⟩:∃ y,y=args[p]:=⟨_,rfl⟩;have hy2:=HAR.out args[p] (List.getElem_mem _);rw [<-hy] at hcell hy2;obtain ⟨Y,hY⟩:=Int.eq_ofNat_of_zero_le hy2.1;subst hY;have hYl:Y<l.length:=by rw [HLL.out];omega
       have hstp:((args.take (p+1)).map fun a=>l.getD a.toNat [])=acc++[l[Y]'hYl]:=by
        rw [List.take_succ_eq_append_getElem hpl,List.map_append,<-HA.out,<-hy];simp [List.getD_eq_getElem?_getD,hYl]
       have HSP:=ae hstp.symm;obtain ⟨g,cap,he,hBg,hgl,hcap⟩:=HOL.out.shape (by intro e;rw [e] at hYl;simp at hYl);subst he;obtain ⟨uz,hcz0,huz0⟩:=HOL.out.cell Y hYl;have hcz:=HKop.out.cell hcz0;have huz:=huz0.kept HKop.out;obtain ⟨za,zn,zc,rfl⟩:=huz.1.ints.shape;have HUZ:=ae huz;have hY0:(0:Int)<=(Y:Int):=by omega
       have hYi:(Y:Int)<(l.length:Int):=by omega
       have hacl:acc.length<=16:=by rw [HA.out,List.length_map,List.length_take];omega
       have HACL:=ae hacl;have hz7:=HKp.out.size;clear hc0 hy hstp huz hcz0 huz0 hBg hgl hcap hacl;go_wp2_with (at_builtin;refine qT rfl _ _ rfl w7.heap.size _ acc rfl (HAC.out.kept ((af.refl _).alloc _)) _ _ (l[Y]'hYl) rfl (by simp) (HUZ.out.kept ((af.refl _).alloc _)) (by have:=HACL.out;omega) (by simp;omega) ?_;intro nv' w8 hown8 hg8 hb8;have O8:=ae hown8;have HK8:=ae ((HKp.out.alloc _).app (hb8.mono (by simp)));clear hown8 hg8 hb8);go_roundg (na - (p+1))
       case measure=>omega
       case rel=>exact ⟨p+1,_,by omega,by go_num,Nat.le_refl _,HSP,O8,HK8⟩
      ·have hpi:¬ (p:Int)<(na:Int):=by omega
       have hfull:acc=args.map fun a=>l.getD a.toNat []:=by rw [HA.out,List.take_of_length_le (by have:=HNA.out;omega)]
       have hlen:acc.length=args.length:=by rw [hfull];simp
       have hcall:∀ W,af wr W->Calls Tryz.prog 82 #[.agg #[.int .i64 kd,.int .i64 kk,.slice ax na cx],u11] W fun e w'=>dy w' 0 e (cI kd kk acc)/\af W w':=fun W hkw2=>yQ kd kk ax na cx u11 acc W (HAC.out.at.kept hkw2) HZE.out (fun h=>by rw [hlen];exact HVO.out h) (by rw [hlen,<-HNA.out];omega) HKD.out
       have hst2:f_ V (nds.take (j+1))=(cI kd kk acc).map fun r=>l++[r]:=by
        rw [HST.out];unfold fG;rw [<-hfull]
       have HCL:=ae hcall;have HST2:=ae hst2;have hnb:=HR7.out.kept HKp.out;have g0:=hnb.cell (i:=0) (by simp);have g1:=hnb.cell (i:=1) (by simp);have g2:=hnb.cell (i:=2) (by simp);simp only [List.getElem_cons_succ,List.getElem_cons_zero] at g0 g1 g2;have HKqq:=ae (HKq.out.trans HKop.out);obtain ⟨z,hz⟩:∃ z,z=cI kd kk acc:=⟨_,rfl⟩;rw [<-hz] at HCL HST2;clear hfull hlen hcall hst2 hnb hz;cases z with
       | none =>
        have HRN:Hid (r=none):=ae (by
         rw [HR.out,wg HST2.out];rfl)
        go_wp2_with fail;refine (HCL.out _ (af.refl _)).mono ?_;rintro e w8 ⟨he,hk8⟩;unfold dy at he;subst he;have HK8:=ae (HK4.out.trans (HKqq.out.trans hk8));clear hk8 g0 g1 g2;rw [aA (show (4:Nat)≠0 by decide)];go_wp2;go_ret2;exact ⟨by rw [HRN.out];rfl,HK8.out⟩
       | some y =>
        go_wp2_with fail;refine (HCL.out _ (af.refl _)).mono ?_;rintro e w8 ⟨⟨v8,rfl,ho8⟩,hk8⟩;have HK8:=ae (HKqq.out.trans hk8);have HOL8:=ae (HOL.out.kept (HKop.out.trans hk8));have HO8:=ae ho8;have hz8:=HK8.out.size;have hll9:l.length<1000000:=by rw [HLL.out];omega
        obtain ⟨za,zn,zc,rfl⟩:=ho8.1.ints.shape;clear hk8 g0 g1 g2 ho8;go_wp2_with (at_builtin;refine qT rfl _ _ rfl w4.heap.size _ l rfl (HOL8.out.kept ((af.refl _).alloc _)) _ _ y rfl (by simp) (HO8.out.kept ((af.refl _).alloc _)) hll9 (by simp;omega) ?_;intro nv' w9 hown9 hg9 hb9;have O9:=ae hown9;have HK9:=ae ((HK8.out.alloc _).app (hb9.mono (by simp)));clear hown9 hg9 hb9);go_roundg (m - (j+1))
        case measure=>omega
        case rel=>exact ⟨j+1,_,by omega,by go_num,Nat.le_refl _,HST2,O9,HK9⟩
    ·have hjn:¬ (j:Int)<(m:Int):=by omega
     have hT2l:T2<l.length:=by rw [HLL.out];omega
     have HRS:Hid (r=some (l.getD T2 [])):=ae (by
      have h:=HL.out;rw [List.take_of_length_le (by have:=HM.out;omega)] at h;rw [HR.out,h];rfl)
     obtain ⟨g,cap,he,hBg,hgl,hcap⟩:=HOL.out.shape (by intro e;rw [e] at hT2l;simp at hT2l);subst he;obtain ⟨uz,hcz,huz⟩:=HOL.out.cell T2 hT2l;have hf2:=(HR4.out.kept HKq.out).cell (i:=2) (by simp);simp only [List.getElem_cons_succ,List.getElem_cons_zero] at hf2;have HCN:Hid (Calls Tryz.prog 83 #[uz] wr fun e w'=>(∃ v',e=.returned v'/\OwnInts w' wr.heap.size v' (aO l[T2]))/\af wr w'):=ae ((pS uz (aO l[T2]) wr huz.1.ints (by have:=tZ j (by have:=HM.out;omega) l HL.out l[T2] (List.getElem_mem _);simp [aO];omega)).mono fun e w' ⟨v',h1,h2,h3⟩=>⟨⟨v',h1,h2⟩,h3⟩);have HMKZ:Hid (∀ x∈l[T2],Mk x):=ae huz.2;have HGD:Hid (l.getD T2 []=l[T2]):=ae (by simp [List.getD_eq_getElem?_getD,hT2l]);have h0:(0:Int)<=(T2:Int):=by omega
     have h1:(T2:Int)<(l.length:Int):=by omega
     have HKqw:=ae (HK4.out.trans HKq.out);clear huz hBg hgl hcap;go_wp2_with fail;refine HCN.out.mono ?_;rintro e w8 ⟨⟨v8,rfl,ho8⟩,hk8⟩;have HK8:=ae (HKqw.out.trans hk8);have HO8:=ae ho8;clear hk8 ho8;go_wp2;go_ret2;exact ⟨by rw [HRS.out,HGD.out];exact ⟨_,rfl,HO8.out.mono (Nat.zero_le _),HMKZ.out⟩,HK8.out⟩
theorem wl {V:Nat} {mark:List Bool} {nodes:List Nd}:∀ k,k<=nodes.length->∀ i (h:i<(aY V mark nodes k).length),∃ j,∃ hj:j<nodes.length,j<k/\mark.getD (V+j) false=true/\fI V mark j=i/\(aY V mark nodes k)[i]=oU V mark nodes[j]:=by
 intro k;induction k with
 | zero=>intro _ i h;simp [aY] at h
 | succ k ih =>
  intro hk i h;by_cases hm:mark.getD (V+k) false=true
  ·have e:aY V mark nodes (k+1)=aY V mark nodes k++[oU V mark (nodes.getD k bB)]:=by rw [aY,if_pos hm]
   have hl:(aY V mark nodes k).length=fI V mark k:=gR V mark nodes k;by_cases hi:i<(aY V mark nodes k).length
   ·obtain ⟨j,hj,h1,h2,h3,h4⟩:=ih (by omega) i hi;refine ⟨j,hj,by omega,h2,h3,?_⟩;rw [<-h4];simp only [e];rw [List.getElem_append_left hi]
   ·have h5:i=(aY V mark nodes k).length:=by
     have:=congrArg List.length e;rw [List.length_append] at this;simp at this;omega
    refine ⟨k,by omega,by omega,hm,by omega,?_⟩;simp only [e];rw [List.getElem_append_right (by omega)];simp [List.getD_eq_getElem?_getD,show k<nodes.length by omega]
  ·have e:aY V mark nodes (k+1)=aY V mark nodes k:=by rw [aY,if_neg hm]
   have hi:i<(aY V mark nodes k).length:=by rw [e] at h;exact h
   obtain ⟨j,hj,h1,h2,h3,h4⟩:=ih (by omega) i hi;refine ⟨j,hj,by omega,h2,h3,?_⟩;rw [<-h4];simp only [e]
theorem BR {V:Nat} {mark:List Bool} {a:Int} {j:Nat} (h0:0<=a) (h1:a<(V:Int)+j) (hm:mark.getD a.toNat false=true):0<=mU V mark a/\mU V mark a<(V:Int)+fI V mark j:=by
 unfold mU;by_cases h:a<V
 ·rw [if_pos h];omega
 ·rw [if_neg h];have h2:=wY V mark (i:=(a - V).toNat) (k:=j) (by omega) (by rw [show V+(a - (V:Int)).toNat=a.toNat by omega];exact hm);omega
theorem Cu {V T:Nat} {f:Fm} (hok:Ok f V T) (hs:cC V T f=true):Fp V (aY V (aQ V T f.nodes) f.nodes f.nodes.length) (mU V (aQ V T f.nodes) (T:Int)):=by
 have hl:(aY V (aQ V T f.nodes) f.nodes f.nodes.length).length=fI V (aQ V T f.nodes) f.nodes.length:=gR _ _ _ _;have hcl:=dh V T f hok;have hget:=wl (V:=V) (mark:=aQ V T f.nodes) (nodes:=f.nodes) f.nodes.length (Nat.le_refl _);refine ⟨hok.v24,?_,?_,fun i h a ha=>?_,fun i h=>?_,fun i h=>?_,fun i h hk=>?_,fun i h hk=>?_⟩
 ·rw [hl];have:=wX V (aQ V T f.nodes) f.nodes.length;have:=hok.n128;omega
 ·rw [hl];exact BR (by omega) (by have:=hok.tlt;omega) (by simpa using ji hok)
 ·obtain ⟨j,hj,h1,h2,h3,h4⟩:=hget i h;rw [h4] at ha;obtain ⟨b,hb,rfl⟩:=List.mem_map.1 ha;have h5:=hok.args j hj b hb;have h6:=BR h5.1 h5.2 (hcl j hj h2 b hb);rw [h3] at h6;exact h6
 ·obtain ⟨j,hj,h1,h2,h3,h4⟩:=hget i h;rw [h4];show (f.nodes[j].args.map _).length<=16;rw [List.length_map];exact jh (hok.argc j hj)
 ·obtain ⟨j,hj,h1,h2,h3,h4⟩:=hget i h;rw [h4];exact jp hok hs j hj h2
 ·obtain ⟨j,hj,h1,h2,h3,h4⟩:=hget i h;rw [h4] at hk⊢;have h5:=hok.arity j hj;have hk2:f.nodes[j].kind=0:=hk;show f.nodes[j].k=0\/f.nodes[j].k=1;unfold jA at h5;rw [if_pos hk2] at h5;split at h5
  ·rename_i h6;omega
  ·cases h5
 ·obtain ⟨j,hj,h1,h2,h3,h4⟩:=hget i h;rw [h4] at hk⊢;have h5:=hok.arity j hj;have hk2:f.nodes[j].kind=4:=hk;show 1<=f.nodes[j].k/\f.nodes[j].k<=((f.nodes[j].args.map (mU V (aQ V T f.nodes))).length:Nat);rw [List.length_map];unfold jA at h5;rw [if_neg (by omega),if_pos hk2] at h5;split at h5
  ·assumption
  ·cases h5
theorem qs {V T:Nat} {f:Fm} (hok:Ok f V T):cu V T f.nodes=(dp V (aQ V T f.nodes) f.nodes f.nodes.length).map fun out=>if T<V then [2^T] else out.getD (T - V) []:=by
 unfold cu;rw [Cr hok.args (dh V T f hok) f.nodes.length (Nat.le_refl _)];cases dp V (aQ V T f.nodes) f.nodes f.nodes.length with
 | none=>rfl
 | some out =>
  simp only [Option.map_some];congr 1;by_cases h:T<V
  ·rw [if_pos h,xq h,Int.toNat_natCast];exact mW h _
  ·rw [if_neg h];have e:((T:Nat):Int)=((V+(T - V):Nat):Int):=by omega
   rw [e,tJ,Int.toNat_natCast,jQ];exact tx (by rw [show V+(T - V)=T by omega];exact ji hok) _ (by have:=hok.tlt;omega)
theorem CQ {i s:Nat} (hi:i<24):up [2^i] (pt s) ↔ s.testBit i=false:=by
 unfold up;constructor
 ·rintro ⟨t,ht,h⟩;rw [List.mem_singleton] at ht;subst ht;have:=aw.1 h i (by simp);rw [ek s i hi] at this;simpa using this
 ·intro h;refine ⟨2^i,List.mem_singleton.2 rfl,aw.2 fun j hj=>?_⟩;rw [Nat.testBit_two_pow] at hj
  have:i=j:=by simpa using hj
  subst this;rw [ek s i hi,h];rfl
theorem uT {V:Nat} {mark:List Bool} {nodes:List Nd}:∀ k out,dp V mark nodes k=some out->∀ l∈out,Good l:=by
 intro k;induction k with
 | zero=>intro out h l hl;cases h;rw [List.eq_of_mem_replicate hl];exact iL
 | succ k ih =>
  intro out h l hl;obtain ⟨o,h1,h2⟩:=Option.bind_eq_some_iff.1 h;unfold dV at h2;split at h2
  ·obtain ⟨y,hy,rfl⟩:=Option.map_eq_some_iff.1 h2;rcases List.mem_or_eq_of_mem_set hl with h3 | rfl
   ·exact ih o h1 l h3
   ·exact mI hy
  ·cases h2;exact ih _ h1 l hl
theorem fD {V T:Nat} {f:Fm} (hok:Ok f V T) (hs:cC V T f=true) {l:List Nat} (h:cu V T f.nodes=some l):Good l/\∀ s,up l (pt s) ↔ (eQ V s f.nodes).getD T false=false:=by
 rw [qs hok] at h;obtain ⟨out,ho,h1⟩:=Option.map_eq_some_iff.1 h;by_cases hT:T<V
 ·rw [if_pos hT] at h1;subst h1;refine ⟨iM _,fun s=>?_⟩;rw [CQ (by have:=hok.v24;omega)];unfold eQ;rw [ib V s f.nodes f.nodes.length T hT]
 ·rw [if_neg hT] at h1;have hlen:=iR V (aQ V T f.nodes) f.nodes f.nodes.length out ho;have hTl:T - V<out.length:=by rw [hlen];have:=hok.tlt;omega
  have e:out.getD (T - V) []=out[T - V]:=by simp [List.getD_eq_getElem?_getD,hTl]
  refine ⟨?_,fun s=>?_⟩
  ·rw [<-h1,e];exact uT _ out ho _ (List.getElem_mem _)
  ·rw [<-h1];have h2:=wz V T s f hok (aQ V T f.nodes) (fun i hi hm=>jp hok hs i hi hm) (dh V T f hok) f.nodes.length out (Nat.le_refl _) ho (T - V) (by have:=hok.tlt;omega) (by rw [show V+(T - V)=T by omega];exact ji hok);rw [show V+(T - V)=T by omega] at h2;exact h2
theorem Am {s:Nat} (h:s<16777216):pt (pt s)=s:=by
 apply Nat.eq_of_testBit_eq;intro i;by_cases hi:i<24
 ·rw [ek _ i hi,ek _ i hi];simp
 ·have h1:s.testBit i=false:=Nat.testBit_lt_two_pow (Nat.lt_of_lt_of_le h (Nat.pow_le_pow_right (n:=2) (by omega) (show 24<=i by omega)));have h2:∀ t,(pt t).testBit i=false:=fun t=>by unfold pt;rw [bi,ky (by decide) (by omega)];rfl
  rw [h2,h1]
theorem dU {V T:Nat} {f:Fm} (hok:Ok f V T) (hs:cC V T f=true) {l:List Nat} (h:cu V T f.nodes=some l) (hm:∀ x∈l,Mk x):∀ r∈l,r<2^V:=by
 obtain ⟨h1,h3⟩:=fD hok hs h;intro r hr;have hr24:r<16777216:=by have:=hm r hr;unfold Mk at this;omega
 have hm24:r % 2^V<16777216:=Nat.lt_of_le_of_lt (Nat.mod_le _ _) hr24;have hv:=(h3 (pt r)).1 (by rw [Am hr24];exact ⟨r,hr,dr r⟩)
 have he:eQ V (pt (r % 2^V)) f.nodes=eQ V (pt r) f.nodes:=lB V _ _ f.nodes (fun i hi=>by
  have h24:i<24:=by have:=hok.v24;omega
  rw [ek _ i h24,ek _ i h24,Nat.testBit_mod_two_pow];simp [hi]) _
 rw [<-he] at hv;obtain ⟨t,ht,hsub⟩:=(h3 _).2 hv;rw [Am hm24] at hsub
 have htr:t=r:=by
  have hr2:=hr;rw [<-h1.1] at hr2;exact ((bX l r).1 hr2).2 t ht (e_ hsub (nB r V))
 subst htr;have:=gH hsub (nB t V);rw [this];exact Nat.mod_lt _ (Nat.two_pow_pos V)
theorem Ci {t s:Nat} (ht:t<16777216):subN t (pt s)=(t &&& s == 0):=by
 rw [Bool.eq_iff_iff,aw,beq_iff_eq];constructor
 ·intro h;apply Nat.eq_of_testBit_eq;intro i;rw [Nat.testBit_and,Nat.zero_testBit];cases hti:t.testBit i with
  | false=>rfl
  | true =>
   have hi:i<24:=by
    rcases Nat.lt_or_ge i 24 with h2 | h2
    ·exact h2
    ·rw [ky ht h2] at hti;cases hti
   have:=h i hti;rw [ek s i hi] at this;simpa using this
 ·intro h i hti
  have hi:i<24:=by
   rcases Nat.lt_or_ge i 24 with h2 | h2
   ·exact h2
   ·rw [ky ht h2] at hti;cases hti
  rw [ek s i hi];have:=congrArg (fun x=>x.testBit i) h;simp only [Nat.testBit_and,Nat.zero_testBit,hti,Bool.true_and] at this;rw [this];rfl
theorem yf {V T:Nat} {f:Fm} (hok:Ok f V T) (hs:cC V T f=true) {l:List Nat} (h:cu V T f.nodes=some l) (hm:∀ x∈l,Mk x) (s:Nat):iP l s=(eQ V s f.nodes).getD T false:=by
 obtain ⟨_,h3⟩:=fD hok hs h;have h4:=h3 s
 have h5:iP l s=true ↔ ¬ up l (pt s):=by
  unfold iP up;rw [List.all_eq_true];constructor
  ·rintro ha ⟨t,ht,hsub⟩;rw [Ci (by have:=hm t ht;unfold Mk at this;omega)] at hsub;have:=ha t ht;rw [hsub] at this;cases this
  ·intro hn t ht
   have:subN t (pt s)≠true:=fun h=>hn ⟨t,ht,h⟩
   rw [Ci (by have:=hm t ht;unfold Mk at this;omega)] at this;simpa using this
 rw [Bool.eq_iff_iff,h5,h4];cases (eQ V s f.nodes).getD T false <;> simp
def Gp (w':World) (e:Ending) (r:Option (List Nat)):Prop :=
 match r with
 | some l=>∃ v,e=.returned (.tuple #[v,.int .i64 0])/\aJ w' 0 v l
 | none=>e=.returned (.tuple #[.slice none 0 0,.int .i64 4])
def Dr (r:Nat):List Nat:=(List.range 128).filter fun j=>r.testBit (24+j)
def FC (la:List Nat) (k x:Nat):Nat:=if la[k]?=some x then k+1 else k
def Gk (la lb:List Nat) (k:Nat):Nat:=lb.foldl (FC la) k
def Gf (L:List Nat) (i j:Nat):Bool:=decide (i≠j)&&(subN (L.getD j 0) (L.getD i 0)&&(!subN (L.getD i 0) (L.getD j 0)||decide (j<i)))
def ED (L:List Nat) (i:Nat):Bool:=(List.range L.length).all fun j=>!Gf L i j
def BN (L:List Nat) (m:Nat):List Nat:=((List.range m).filter (ED L)).map fun i=>L.getD i 0
def FV (L:List Nat):List Nat:=BN L L.length
def BM (V:Nat):List Int->Nat->Nat->Int->List Nat
 | [],k,r,_=>if k=0 then [r] else []
 | a :: l,k,r,room=>if k=0 then [r] else if l.length+1<k\/room<0 then [] else
   BM V l (k - 1) (bp V r a) room++BM V l k r (room - (BM V l (k - 1) (bp V r a) room).length)
section
open Go.RowKit
variable {Z:Option Nat}
def Fn (Z:Option Nat) (w:World) (u:Value) (r:Nat):Prop:=OwnInts w 0 u (aO (Dr r))/\∀ g,u.ownBlock=some g->Z≠some g
def zO (Z:Option Nat) (w:World) (B:Nat) (v:Value) (L:List Nat):Prop :=
 ∃ cells:List Value,w.ownsRow B 131 2 v L.length cells/\(L.length<=20000/\∀ c∈L,aF 152 c) /\
  ∀ i (h:i<L.length),∃ u,cells[i*2]?=some (.int .i64 (ck L[i]))/\cells[i*2+1]?=some u/\Fn Z w u L[i]
end
section
open Go.RowKit
variable {Z:Option Nat}
def FQ (L:List Nat) (i m:Nat):Bool:=(List.range m).all fun j=>!Gf L i j
end
section
open Go.RowKit
variable {Z:Option Nat}
def FP (w':World) (e:Ending) (r:Option (List Nat × List Nat)):Prop :=
 match r with
 | some p=>∃ Z v1 v2 L,e=.returned (.tuple #[v1,v2,.int .i64 0])/\zO Z w' 0 v1 L/\L.Perm p.1/\OwnInts w' 0 v2 (aO p.2)
 | none=>e=.returned (.tuple #[.slice none 0 0,.slice none 0 0,.int .i64 4])
end
def FJ (w':World) (e:Ending) (p:List Nat × List Nat):Prop:=∃ Z v1 v2 L,e=.returned (.tuple #[v1,v2,.int .i64 0])/\zO Z w' 0 v1 L/\L.Perm p.1/\OwnInts w' 0 v2 (aO p.2)
theorem Ef (v:Value) (f:Fm) (V T:Nat) (hok:Ok f V T) (hck:di f=0) (hs:∃ a n c,v=.slice a n c) :
  (∃ q,((q=4/\cC V T f=true/\dx V T f.nodes=none)\/(q=7/\cC V T f=false))/\∀ W,aG W v f.nodes ->
   (Calls Tryz.prog 34 #[.agg #[.int .i64 V,v,.int .i64 T]] W fun e w'=>e=.returned (.tuple #[.slice none 0 0,aV q])/\af W w')) ∨
  (∃ p,dx V T f.nodes=some p/\cC V T f=true/\∀ W,aG W v f.nodes ->
   (Calls Tryz.prog 34 #[.agg #[.int .i64 V,v,.int .i64 T]] W fun e w'=>(∃ v',e=.returned (.tuple #[v',.nilIface])/\am w' v' (aO p.1))/\af W w')):=by
 have hfm:jo v f=.agg #[.int .i64 V,v,.int .i64 T]:=by unfold jo;rw [hok.vars,hok.top]
 cases hsy:cC V T f with
 | false =>
  have h7:∀ W,aG W v f.nodes->Calls Tryz.prog 77 #[jo v f] W fun e w'=>e=.returned (.tuple #[.slice none 0 0,.slice none 0 0,aV 7])/\af W w':=fun W hW=>by
   rw [hfm]
   exact qE v V T W hs fun W' hk=>by
    have:=jw v f V T W' (hW.kept hk) hok hck;rw [hsy] at this;exact this
  refine .inl ⟨7,.inr ⟨rfl,rfl⟩,fun W hW=>?_⟩;have h1:=jy v f 7 (by omega) W hs (fun W' hk=>h7 W' (hW.kept hk));rw [hfm] at h1;exact h1
 | true =>
  cases hl:dx V T f.nodes with
  | none =>
   have h4:∀ W,aG W v f.nodes->Calls Tryz.prog 77 #[jo v f] W fun e w'=>e=.returned (.tuple #[.slice none 0 0,.slice none 0 0,aV 4])/\af W w':=fun W hW=>by
    have:=rG v f V T W hW hok hck hsy;rw [hl,<-hfm] at this;exact this
   refine .inl ⟨4,.inl ⟨rfl,rfl,rfl⟩,fun W hW=>?_⟩;have h1:=jy v f 4 (by omega) W hs (fun W' hk=>h4 W' (hW.kept hk));rw [hfm] at h1;exact h1
  | some p =>
   obtain ⟨hg,hm,_⟩:=dt hok hsy hl
   have h0:∀ W,aG W v f.nodes->Calls Tryz.prog 77 #[.agg #[.int .i64 V,v,.int .i64 T]] W fun e w'=>qQ w' e p/\af W w':=fun W hW=>by
    have:=rG v f V T W hW hok hck hsy;rw [hl] at this;exact this
   exact .inr ⟨p,rfl,rfl,fun W hW=>(tY v V T p W hg hm hs fun W' hk=>h0 W' (hW.kept hk)).mono fun _ _ ⟨⟨v',h1,h3⟩,h4⟩=>⟨⟨v',h1,h3.1.ints⟩,h4⟩⟩
def Ac (ps:List Rw) (c:List Nat):Option (List Nat)->Nat × Rat × Rat
 | none=>(4,0,0)
 | some l=>(0,gw (aP (gQ ps) l) (aC (fQ ps) c),kh (1 - aP (fQ ps) c) (1 - aC (gQ ps) l))
def lK (V T:Nat) (f:Fm) (ps:List Rw):Nat × Rat × Rat :=
 if ps.length≠V then (11,0,0) else if bI ps=true then (3,0,0) else if cC V T f=false then (7,0,0) else
  match dx V T f.nodes with
  | none=>(4,0,0)
  | some p=>Ac ps p.1 (cu V T f.nodes)
theorem SpanV.nought (w:World):SpanV w (.agg #[.bool false,.slice none 0 0,.slice none 0 0,.bool false,.slice none 0 0,.slice none 0 0]) ⟨false,[],[]⟩ ⟨false,[],[]⟩ :=
 ⟨_,_,_,_,rfl,WdsAt.nil w,WdsAt.nil w,WdsAt.nil w,WdsAt.nil w⟩
theorem fe {s V:Nat} {ps:List Rw} (hV:ps.length=V) (h24:V<=24) (h:s<2^V):s<16777216/\nz s<(ps.length:Int):=by
 have h1:s<2^24:=Nat.lt_of_lt_of_le h (Nat.pow_le_pow_right (by omega) h24);refine ⟨h1,?_⟩;have h2:Lib.bitLen s<=V:=Lib.bitLen_le s V (by omega) h;unfold nz;omega
theorem EZ {a b:Rat} (ha:(ah a).Short 95233) (hb:(ah b).Short 95233):(ah (gw a b)).Short 95233:=by unfold gw;split <;> assumption
theorem E_ {a b:Rat} {k:Nat} (ha:(ah a).Short k) (hb:(ah b).Short k):(ah (kh a b)).Short k:=by unfold kh;split <;> assumption
theorem kT (v pv:Value) (f:Fm) (V T:Nat) (ps:List Rw) (w:World) (hv:aG w v f.nodes) (hok:Ok f V T) (hck:di f=0) (hp:RatsAt w pv ps) (h3:∀ r∈ps,r.Short 3) (h30:ps.length<=30) :
  Calls Tryz.prog 20 #[.agg #[.int .i64 V,v,.int .i64 T],pv] w fun e w'=>(∃ v',e=.returned (.tuple #[v',aV (lK V T f ps).1])/\SpanV w' v' (ah (lK V T f ps).2.1) (ah (lK V T f ps).2.2))/\af w w':=by
 have HCF:Hid (∀ W,af w W->Calls Tryz.prog 30 #[.agg #[.int .i64 V,v,.int .i64 T]] W fun e w'=>e=.returned .nilIface/\af W w'):=ae fun W hk=>by
  have h:=dE v f W (hv.kept hk) (by rw [hok.top];have:=hok.tlt;have:=hok.n128;have:=hok.v24;omega);rw [hck,aH] at h;unfold jo at h;rw [hok.vars,hok.top] at h;exact h
 have HBD:=ae (fun W (h:af w W)=>pX pv ps W (hp.kept h) (fun r hr=>⟨Nat.le_trans (h3 r hr).1 (by omega),Nat.le_trans (h3 r hr).2 (by omega)⟩));have hoks:=hp.ok;have HV:=ae hv;have HP:=ae hp;have HO:=ae hok;have HCK:=ae hck;have HS3:=ae h3;have H30:=ae h30;have HOKS:=ae hoks;obtain ⟨va,vn,vc,rfl⟩:∃ a n c,v=.slice a n c:=by obtain ⟨a,c,h,_⟩:=hv;exact ⟨a,_,c,h⟩
 obtain ⟨pa,pc,rfl⟩:=hp.shape;obtain ⟨pn,hpn⟩:∃ pn,pn=ps.length:=⟨_,rfl⟩;obtain ⟨B,hB⟩:∃ B,B=lK V T f ps:=⟨_,rfl⟩;rw [<-hB];unfold lK at hB;rw [<-hpn] at HBD HP hB⊢;have HPN:=ae hpn;have HB:=ae hB;obtain ⟨w1,hw1⟩:∃ w1,w1=w.alloc (.cells #[.int .i64 V,.slice va vn vc,.int .i64 T] 41):=⟨_,rfl⟩;have hr1:=ai.made w #[.int .i64 V,.slice va vn vc,.int .i64 T] 41;rw [<-hw1] at hr1;have hs1:w1.heap.size=w.heap.size+1:=by rw [hw1];simp
 obtain ⟨w2,hw2⟩:∃ w2,w2=w1.alloc (.cells #[.bool false,.slice none 0 0,.slice none 0 0,.bool false,.slice none 0 0,.slice none 0 0] 44):=⟨_,rfl⟩;have HK12:Hid (af w1 w2):=ae (by rw [hw2];exact (af.refl _).alloc _);have HK2:Hid (af w w2):=ae (by rw [hw2,hw1];exact ((af.refl _).alloc _).alloc _);have HS2:Hid (SpnAt w2 (w.heap.size+1) ⟨false,[],[]⟩ ⟨false,[],[]⟩):=ae (by rw [hw2,<-hs1];exact SpnAt.zero w1);have HR2:=ae (hr1.kept HK12.out);have HW2:Hid (w2=(w.alloc (.cells #[.int .i64 V,.slice va vn vc,.int .i64 T] 41)).alloc (.cells #[.bool false,.slice none 0 0,.slice none 0 0,.bool false,.slice none 0 0,.slice none 0 0] 44)):=ae (by rw [hw2,hw1]);clear hv hp hok hck h3 h30 hoks hpn hB hw1 hw2 hr1 hs1;go_enter Tryz.func20,Tryz.ntmps20;go_wp2_with fail;rw [<-HW2.out];refine (HCF.out _ HK2.out).mono ?_;rintro e w3 ⟨rfl,hk3⟩;have HK3:=ae (HK2.out.trans hk3);have HS3':=ae (HS2.out.kept hk3);have HR3:=ae (HR2.out.kept hk3);have b0:=HR3.out.cell (i:=0) (by simp);have b1:=HR3.out.cell (i:=1) (by simp);have b2:=HR3.out.cell (i:=2) (by simp);simp only [List.getElem_cons_succ,List.getElem_cons_zero] at b0 b1 b2;have hl3:=HR3.out.lt;clear hk3;by_cases hlen:pn=V
 ·have HLN:=ae hlen;have hlb:((pn:Int) != (V:Int))=false:=by simp [hlen]
  clear hlen;cases hbad:bI ps with
  | true =>
   rw [hbad] at HBD;have HBA:=ae hbad;clear hbad;go_wp2_with fail;refine (HBD.out _ HK3.out).mono ?_;rintro e w4 ⟨rfl,hk4⟩;have HK4:=ae (HK3.out.trans hk4);have HS4:=ae (HS3'.out.kept hk4);clear hk4 b0 b1 b2;have HE:Hid (B=(3,0,0)):=ae (by have h:=HB.out;rw [if_neg (by rw [HLN.out];simp),HBA.out,if_pos rfl] at h;exact h);obtain ⟨n1,l1,m1,n2,l2,m2,a1,c1,a2,c2,a3,c3,a4,c4,w9,he,hw9,⟨⟨z0,p0⟩,⟨z1,p1⟩,⟨z2,p2⟩,⟨z3,p3⟩,⟨z4,p4⟩,⟨z5,p5⟩⟩,⟨f0,f1,f2,f3,f4,f5⟩,hl9,Y,HSV,_,_,HKP⟩:=HS4.out.put (SpanV.nought _);have HKE:=ae (HKP.out _ HK4.out (by first | exact Nat.le_refl _ | omega));simp only [Value.agg.injEq,Array.mk.injEq,List.cons.injEq,Value.bool.injEq,Value.slice.injEq,and_true] at he;obtain ⟨rfl,⟨rfl,rfl,rfl⟩,⟨rfl,rfl,rfl⟩,rfl,⟨rfl,rfl,rfl⟩,rfl,rfl,rfl⟩:=he;rw [hw9] at Y HSV HKE;clear hw9 HKP;go_wp2;refine bodyPost_ret (v:=.tuple #[.agg #[.bool false,.slice none 0 0,.slice none 0 0,.bool false,.slice none 0 0,.slice none 0 0],.iface 60 (.int .i64 3)]) ?_ rfl ⟨⟨_,by rw [HE.out];rfl,by rw [HE.out];exact HSV.out⟩,HKE.out⟩;simp [results,Tryz.results20,go_sem,Y.out.1,Y.out.2.1,Y.out.2.2.1,Y.out.2.2.2.1,Y.out.2.2.2.2.1,Y.out.2.2.2.2.2]
  | false =>
   rw [hbad] at HBD;have HBA:=ae hbad;clear hbad;go_wp2_with fail;refine (HBD.out _ HK3.out).mono ?_;rintro e w4 ⟨rfl,hk4⟩;have HK4:=ae (HK3.out.trans hk4);have HS4:=ae (HS3'.out.kept hk4);have HR4:=ae (HR3.out.kept hk4);clear hk4 b0 b1 b2;have b0:=HR4.out.cell (i:=0) (by simp);have b1:=HR4.out.cell (i:=1) (by simp);have b2:=HR4.out.cell (i:=2) (by simp);simp only [List.getElem_cons_succ,List.getElem_cons_zero] at b0 b1 b2
   have HB2:Hid (B=if cC V T f=false then (7,0,0) else match dx V T f.nodes with
    | none=>(4,0,0)
    | some p=>Ac ps p.1 (cu V T f.nodes)):=ae (by have h:=HB.out;rw [if_neg (by rw [HLN.out];simp),HBA.out,if_neg (by simp)] at h;exact h)
   go_wp2_with fail;rcases Ef (.slice va vn vc) f V T HO.out HCK.out ⟨_,_,_,rfl⟩ with ⟨q,hq,hfc⟩ | ⟨p,hl,hsy,hfc⟩
   ·have HCU:=ae (hfc w4 (HV.out.kept HK4.out))
    have HE:Hid (B=(q,0,0)):=ae (by
     have h:=HB2.out;rcases hq with ⟨rfl,h1,h2⟩ | ⟨rfl,h1⟩
     ·rw [h1,if_neg (by simp),h2] at h;exact h
     ·rw [h1,if_pos rfl] at h;exact h)
    have hq0:q≠0:=by rcases hq with ⟨rfl,_⟩ | ⟨rfl,_⟩ <;> decide
    have hqn:((q:Nat):Int)≠0:=by omega
    have hqb:(((q:Nat):Int) != 0)=true:=by simpa using hqn
    have hqe:aV q=.iface 60 (.int .i64 q):=aA hq0;rw [hqe] at HCU;have HQE:=ae hqe;clear hfc hq hq0 hqe;refine HCU.out.mono ?_;rintro e w5 ⟨rfl,hk5⟩;have HK5:=ae (HK4.out.trans hk5);have HS5:=ae (HS4.out.kept hk5);clear hk5 b0 b1 b2;obtain ⟨n1,l1,m1,n2,l2,m2,a1,c1,a2,c2,a3,c3,a4,c4,w9,he,hw9,⟨⟨z0,p0⟩,⟨z1,p1⟩,⟨z2,p2⟩,⟨z3,p3⟩,⟨z4,p4⟩,⟨z5,p5⟩⟩,⟨f0,f1,f2,f3,f4,f5⟩,hl9,Y,HSV,_,_,HKP⟩:=HS5.out.put (SpanV.nought _);have HKE:=ae (HKP.out _ HK5.out (by first | exact Nat.le_refl _ | omega));simp only [Value.agg.injEq,Array.mk.injEq,List.cons.injEq,Value.bool.injEq,Value.slice.injEq,and_true] at he;obtain ⟨rfl,⟨rfl,rfl,rfl⟩,⟨rfl,rfl,rfl⟩,rfl,⟨rfl,rfl,rfl⟩,rfl,rfl,rfl⟩:=he;rw [hw9] at Y HSV HKE;clear hw9 HKP;go_wp2;refine bodyPost_ret (v:=.tuple #[.agg #[.bool false,.slice none 0 0,.slice none 0 0,.bool false,.slice none 0 0,.slice none 0 0],.iface 60 (.int .i64 (q:Nat))]) ?_ rfl ⟨⟨_,by rw [HE.out];exact congrArg (fun x=>Ending.returned (.tuple #[_,x])) HQE.out.symm,by rw [HE.out];exact HSV.out⟩,HKE.out⟩;simp [results,Tryz.results20,go_sem,Y.out.1,Y.out.2.1,Y.out.2.2.1,Y.out.2.2.2.1,Y.out.2.2.2.2.1,Y.out.2.2.2.2.2]
   ·have HSY:=ae hsy;have HTL:=ae hl;obtain ⟨hgood,hmk,_⟩:=dt HO.out hsy hl;have HCU:=ae (hfc w4 (HV.out.kept HK4.out));have HC24:Hid (∀ s∈p.1,s<16777216/\nz s<(ps.length:Int)):=ae fun s hs=>fe (by rw [<-HPN.out];exact HLN.out) HO.out.v24 (dK HO.out hsy hl s hs)
    have HCL:Hid (p.1.length<=1024):=ae hgood.2;have HGP:=ae hgood;obtain ⟨z,hz⟩:∃ z,z=cu V T f.nodes:=⟨_,rfl⟩;have HZ:=ae hz
    have HPA:Hid (∀ W,af w W->Calls Tryz.prog 36 #[.agg #[.int .i64 V,.slice va vn vc,.int .i64 T]] W fun e w'=>dy w' 0 e z/\af W w'):=ae fun W hk=>by
     rw [hz];exact km _ f V T W (HV.out.kept hk) HO.out HCK.out HSY.out (Cu HO.out HSY.out)
    have HB3:Hid (B=Ac ps p.1 z):=ae (by have h:=HB2.out;rw [hsy,if_neg (by simp),hl] at h;rw [hz];exact h);clear hfc hl hsy hgood hmk hz;refine HCU.out.mono ?_;rintro e w5 ⟨⟨v5,rfl,hv5⟩,hk5⟩;have HK5:=ae (HK4.out.trans hk5);have HS5:=ae (HS4.out.kept hk5);have HC5:=ae hv5;clear b0 b1 b2;have b0:=(HR4.out.kept hk5).cell (i:=0) (by simp);have b1:=(HR4.out.kept hk5).cell (i:=1) (by simp);have b2:=(HR4.out.kept hk5).cell (i:=2) (by simp);simp only [List.getElem_cons_succ,List.getElem_cons_zero] at b0 b1 b2;clear hv5 hk5;go_wp2_with fail;cases z with
    | none =>
     refine (HPA.out _ HK5.out).mono ?_;rintro e w6 ⟨he,hk6⟩;unfold dy at he;subst he;have HK6:=ae (HK5.out.trans hk6);have HS6:=ae (HS5.out.kept hk6);clear hk6 b0 b1 b2;rw [aA (show (4:Nat)≠0 by decide)];have HE:Hid (B=(4,0,0)):=HB3;obtain ⟨n1,l1,m1,n2,l2,m2,a1,c1,a2,c2,a3,c3,a4,c4,w9,he,hw9,⟨⟨z0,p0⟩,⟨z1,p1⟩,⟨z2,p2⟩,⟨z3,p3⟩,⟨z4,p4⟩,⟨z5,p5⟩⟩,⟨f0,f1,f2,f3,f4,f5⟩,hl9,Y,HSV,_,_,HKP⟩:=HS6.out.put (SpanV.nought _);have HKE:=ae (HKP.out _ HK6.out (by first | exact Nat.le_refl _ | omega));simp only [Value.agg.injEq,Array.mk.injEq,List.cons.injEq,Value.bool.injEq,Value.slice.injEq,and_true] at he;obtain ⟨rfl,⟨rfl,rfl,rfl⟩,⟨rfl,rfl,rfl⟩,rfl,⟨rfl,rfl,rfl⟩,rfl,rfl,rfl⟩:=he;rw [hw9] at Y HSV HKE;clear hw9 HKP;go_wp2;refine bodyPost_ret (v:=.tuple #[.agg #[.bool false,.slice none 0 0,.slice none 0 0,.bool false,.slice none 0 0,.slice none 0 0],.iface 60 (.int .i64 4)]) ?_ rfl ⟨⟨_,by rw [HE.out];rfl,by rw [HE.out];exact HSV.out⟩,HKE.out⟩;simp [results,Tryz.results20,go_sem,Y.out.1,Y.out.2.1,Y.out.2.2.1,Y.out.2.2.2.1,Y.out.2.2.2.2.1,Y.out.2.2.2.2.2]
    | some l =>
     refine (HPA.out _ HK5.out).mono ?_;rintro e w6 ⟨⟨v6,rfl,ho6⟩,hk6⟩;have HK6:=ae (HK5.out.trans hk6);have HS6:=ae (HS5.out.kept hk6);have HC6:=ae (HC5.out.kept hk6);have HL6:=ae ho6.1.ints;obtain ⟨hgl,_⟩:=fD HO.out HSY.out HZ.out.symm;have hL24:∀ s∈l,s<16777216/\nz s<(ps.length:Int):=fun s hs=>fe (by rw [<-HPN.out];exact HLN.out) HO.out.v24 (dU HO.out HSY.out HZ.out.symm ho6.2 s hs)
     have hll:l.length<=1024:=hgl.2;have hF91:∀ s∈p.1,(ah (fQ ps s)).Short 91:=fun s _=>jn HOKS.out HS3.out H30.out s
     have hG91:∀ s∈l,(ah (gQ ps s)).Short 91:=fun s _=>kV HOKS.out HBA.out HS3.out H30.out s
     have sF:=cD HCL.out hF91;have sG:=cD hll hG91;have gF:=dl hF91;have gG:=dl hG91;have sF2:=df sF (by decide);have gG2:=df gG (by decide);obtain ⟨R1,hR1⟩:∃ R1,R1=ah (gw (aP (gQ ps) l) (aC (fQ ps) p.1)):=⟨_,rfl⟩;obtain ⟨R2,hR2⟩:∃ R2,R2=ah (kh (1 - aP (fQ ps) p.1) (1 - aC (gQ ps) l)):=⟨_,rfl⟩;clear hk6 ho6 b0 b1 b2;have HFA:Hid (∀ s∈p.1,∀ W,af w W->Calls Tryz.prog 49 #[.int .i64 s,.slice pa pn pc] W fun e w'=>(∃ v',e=.returned v'/\RatAt w' v' (ah (fQ ps s)))/\af W w'):=ae fun s hs W h=>fS s _ ps W (HC24.out s hs).1 (by rw [HPN.out];rw [HPN.out] at HP;exact HP.out.kept h) HS3.out H30.out
     have HWA:Hid (∀ s∈l,∀ W,af w W->Calls Tryz.prog 54 #[.int .i64 s,.slice pa pn pc] W fun e w'=>(∃ v',e=.returned v'/\RatAt w' v' (ah (gQ ps s)))/\af W w'):=ae fun s hs W h=>iK s _ ps W (hL24 s hs).1 (by rw [HPN.out];rw [HPN.out] at HP;exact HP.out.kept h) HS3.out H30.out HBA.out
     have HN1:Hid (∀ W,af w6 W->Calls Tryz.prog 48 #[v6,.slice pa pn pc,.func (.func 54) #[] #[]] W fun e w'=>(∃ v',e=.returned v'/\RatAt w' v' (ah (aP (gQ ps) l)))/\af W w'):=ae fun W h =>
      esnone_any 54 (enters_of Tryz.func54 (by kernel_rfl) rfl) (gQ ps) l _ _ W (HL6.out.kept h) hll hG91 (fun s hs W2 h1=>HWA.out s hs W2 (HK6.out.trans (h.trans h1)))
     have HG1:Hid (∀ W,af w6 W->Calls Tryz.prog 58 #[v5,.slice pa pn pc,.func (.func 49) #[] #[]] W fun e w'=>(∃ v',e=.returned v'/\RatAt w' v' (ah (aC (fQ ps) p.1)))/\af W w'):=ae fun W h =>
      esgreat_any 49 (enters_of Tryz.func49 (by kernel_rfl) rfl) (fQ ps) p.1 _ _ W (HC6.out.kept h) HCL.out hF91 (fun s hs W2 h1=>HFA.out s hs W2 (HK6.out.trans (h.trans h1)))
     have HN2:Hid (∀ W,af w6 W->Calls Tryz.prog 48 #[v5,.slice pa pn pc,.func (.func 49) #[] #[]] W fun e w'=>(∃ v',e=.returned v'/\RatAt w' v' (ah (aP (fQ ps) p.1)))/\af W w'):=ae fun W h =>
      esnone_any 49 (enters_of Tryz.func49 (by kernel_rfl) rfl) (fQ ps) p.1 _ _ W (HC6.out.kept h) HCL.out hF91 (fun s hs W2 h1=>HFA.out s hs W2 (HK6.out.trans (h.trans h1)))
     have HG2:Hid (∀ W,af w6 W->Calls Tryz.prog 58 #[v6,.slice pa pn pc,.func (.func 54) #[] #[]] W fun e w'=>(∃ v',e=.returned v'/\RatAt w' v' (ah (aC (gQ ps) l)))/\af W w'):=ae fun W h =>
      esgreat_any 54 (enters_of Tryz.func54 (by kernel_rfl) rfl) (gQ ps) l _ _ W (HL6.out.kept h) hll hG91 (fun s hs W2 h1=>HWA.out s hs W2 (HK6.out.trans (h.trans h1)))
     have HMX:Hid (∀ W u1 u2,RatAt W u1 (ah (aP (gQ ps) l))->RatAt W u2 (ah (aC (fQ ps) p.1))->Calls Tryz.prog 57 #[u1,u2] W fun e w'=>(∃ v',e=.returned v'/\RatAt w' v' R1)/\af W w'):=ae fun W u1 u2 k1 k2=>by
      have h:=oW u1 u2 _ _ W k1 k2 ⟨Nat.le_trans sG.1 (by omega),Nat.le_trans sG.2 (by omega)⟩ ⟨Nat.le_trans gF.1 (by omega),Nat.le_trans gF.2 (by omega)⟩;rw [al,al,<-hR1] at h;exact h
     have HT1:Hid (∀ W u,RatAt W u (ah (aP (fQ ps) p.1))->Calls Tryz.prog 47 #[u] W fun e w'=>(∃ v',e=.returned v'/\RatAt w' v' (ah (1 - aP (fQ ps) p.1)))/\af W w'):=ae fun W u hu=>by
      have h:=fd u _ W hu (rK sF);rw [al] at h;exact h
     have HT2:Hid (∀ W u,RatAt W u (ah (aC (gQ ps) l))->Calls Tryz.prog 47 #[u] W fun e w'=>(∃ v',e=.returned v'/\RatAt w' v' (ah (1 - aC (gQ ps) l)))/\af W w'):=ae fun W u hu=>by
      have h:=fd u _ W hu (rK gG);rw [al] at h;exact h
     have HMN:Hid (∀ W u1 u2,RatAt W u1 (ah (1 - aP (fQ ps) p.1))->RatAt W u2 (ah (1 - aC (gQ ps) l))->Calls Tryz.prog 59 #[u1,u2] W fun e w'=>(∃ v',e=.returned v'/\RatAt w' v' R2)/\af W w'):=ae fun W u1 u2 k1 k2=>by
      have h:=tK u1 u2 _ _ W k1 k2 ⟨Nat.le_trans sF2.1 (by omega),Nat.le_trans sF2.2 (by omega)⟩ ⟨Nat.le_trans gG2.1 (by omega),Nat.le_trans gG2.2 (by omega)⟩;rw [al,al,<-hR2] at h;exact h
     have HRR:Hid (ah (gw (aP (gQ ps) l) (aC (fQ ps) p.1))=R1/\ah (kh (1 - aP (fQ ps) p.1) (1 - aC (gQ ps) l))=R2):=ae ⟨hR1.symm,hR2.symm⟩;have HBX:Hid (B=(0,gw (aP (gQ ps) l) (aC (fQ ps) p.1),kh (1 - aP (fQ ps) p.1) (1 - aC (gQ ps) l))):=HB3;clear hgl hL24 hll hF91 hG91 sF sG gF gG sF2 gG2 hR1 hR2;obtain ⟨x1,hx1⟩:∃ x,x=aP (gQ ps) l:=⟨_,rfl⟩;obtain ⟨x2,hx2⟩:∃ x,x=aC (fQ ps) p.1:=⟨_,rfl⟩;obtain ⟨x3,hx3⟩:∃ x,x=aP (fQ ps) p.1:=⟨_,rfl⟩;obtain ⟨x4,hx4⟩:∃ x,x=aC (gQ ps) l:=⟨_,rfl⟩;rw [<-hx1] at HN1 HMX HRR HBX;rw [<-hx2] at HG1 HMX HRR HBX;rw [<-hx3] at HN2 HT1 HMN HRR HBX;rw [<-hx4] at HG2 HT2 HMN HRR HBX;clear hx1 hx2 hx3 hx4;go_wp2_with fail;refine (HN1.out _ (af.refl _)).mono ?_;rintro e w7 ⟨⟨v7,rfl,hv7⟩,hk7⟩;have HA7:=ae hv7;have HQ7:=ae hk7;clear hv7 hk7;go_wp2_with fail;refine (HG1.out _ HQ7.out).mono ?_;rintro e w8 ⟨⟨v8,rfl,hv8⟩,hk8⟩;have HA8:=ae hv8;have HB8:=ae (HA7.out.kept hk8);have HQ8:=ae (HQ7.out.trans hk8);clear hv8 hk8;go_wp2_with fail;refine (HMX.out _ _ _ HB8.out HA8.out).mono ?_;rintro e w9 ⟨⟨v9,rfl,hv9⟩,hk9⟩;have HA9:=ae hv9;have HQ9:=ae (HQ8.out.trans hk9);clear hv9 hk9;go_wp2_with fail;refine (HN2.out _ HQ9.out).mono ?_;rintro e w10 ⟨⟨v10,rfl,hv10⟩,hk10⟩;have HA10:=ae hv10;have HB10:=ae (HA9.out.kept hk10);have HQ10:=ae (HQ9.out.trans hk10)
     clear hv10 hk10;go_wp2_with fail;refine (HT1.out _ _ HA10.out).mono ?_;rintro e w11 ⟨⟨v11,rfl,hv11⟩,hk11⟩;have HA11:=ae hv11;have HB11:=ae (HB10.out.kept hk11);have HQ11:=ae (HQ10.out.trans hk11);clear hv11 hk11;go_wp2_with fail;refine (HG2.out _ HQ11.out).mono ?_;rintro e w12 ⟨⟨v12,rfl,hv12⟩,hk12⟩;have HA12:=ae hv12;have HB12:=ae (HB11.out.kept hk12);have HC12:=ae (HA11.out.kept hk12);have HQ12:=ae (HQ11.out.trans hk12);clear hv12 hk12;go_wp2_with fail;refine (HT2.out _ _ HA12.out).mono ?_;rintro e w13 ⟨⟨v13,rfl,hv13⟩,hk13⟩;have HA13:=ae hv13;have HB13:=ae (HB12.out.kept hk13);have HC13:=ae (HC12.out.kept hk13);have HQ13:=ae (HQ12.out.trans hk13);clear hv13 hk13;go_wp2_with fail;refine (HMN.out _ _ _ HC13.out HA13.out).mono ?_;rintro e w14 ⟨⟨v14,rfl,hv14⟩,hk14⟩;have hq14:=HQ13.out.trans hk14;have ha:=HB13.out.kept hk14;obtain ⟨d1,d2,d3,d4,d5,d6,d7,rfl⟩:=hv14.parts;obtain ⟨g1,g2,g3,g4,g5,g6,g7,rfl⟩:=ha.parts;have hsv:=SpanV.of2 ha hv14;obtain ⟨z1,z2,z3,z4,z5,z6,y1,y2,y3,y4,y5,y6,y7,y8,w17,he,hw17,⟨⟨z0,p0⟩,⟨zz1,p1⟩,⟨zz2,p2⟩,⟨zz3,p3⟩,⟨zz4,p4⟩,⟨zz5,p5⟩⟩,⟨f0,f1,f2,f3,f4,f5⟩,hl17,Y,HSV,_,_,HKP⟩:=(HS6.out.kept hq14).put hsv;simp only [Value.agg.injEq,Array.mk.injEq,List.cons.injEq,Value.bool.injEq,Value.slice.injEq,and_true] at he;obtain ⟨rfl,⟨rfl,rfl,rfl⟩,⟨rfl,rfl,rfl⟩,rfl,⟨rfl,rfl,rfl⟩,rfl,rfl,rfl⟩:=he
     have HKE:=ae (HKP.out _ (HK6.out.trans hq14) (by omega));rw [hw17] at Y HSV HKE;clear hv14 hk14 ha hq14 hsv hw17 HKP;go_wp2;refine bodyPost_ret (v:=.tuple #[.agg #[.bool g1,.slice g4 g2 g5,.slice g6 g3 g7,.bool d1,.slice d4 d2 d5,.slice d6 d3 d7],.nilIface]) ?_ rfl ⟨⟨_,by rw [HBX.out];rfl,by rw [HBX.out];show SpanV _ _ (ah _) (ah _);rw [HRR.out.1,HRR.out.2];exact HSV.out⟩,HKE.out⟩;simp [results,Tryz.results20,go_sem,Y.out.1,Y.out.2.1,Y.out.2.2.1,Y.out.2.2.2.1,Y.out.2.2.2.2.1,Y.out.2.2.2.2.2]
 ·have HLN:=ae hlen;have hlb:((pn:Int) != (V:Int))=true:=by simp;omega
  clear hlen;have HK4:=HK3;have HS4:=HS3';have HE:Hid (B=(11,0,0)):=ae (by have h:=HB.out;rw [if_pos HLN.out] at h;exact h);obtain ⟨n1,l1,m1,n2,l2,m2,a1,c1,a2,c2,a3,c3,a4,c4,w9,he,hw9,⟨⟨z0,p0⟩,⟨z1,p1⟩,⟨z2,p2⟩,⟨z3,p3⟩,⟨z4,p4⟩,⟨z5,p5⟩⟩,⟨f0,f1,f2,f3,f4,f5⟩,hl9,Y,HSV,_,_,HKP⟩:=HS4.out.put (SpanV.nought _);have HKE:=ae (HKP.out _ HK4.out (by first | exact Nat.le_refl _ | omega));simp only [Value.agg.injEq,Array.mk.injEq,List.cons.injEq,Value.bool.injEq,Value.slice.injEq,and_true] at he;obtain ⟨rfl,⟨rfl,rfl,rfl⟩,⟨rfl,rfl,rfl⟩,rfl,⟨rfl,rfl,rfl⟩,rfl,rfl,rfl⟩:=he;rw [hw9] at Y HSV HKE;clear hw9 HKP;go_wp2;refine bodyPost_ret (v:=.tuple #[.agg #[.bool false,.slice none 0 0,.slice none 0 0,.bool false,.slice none 0 0,.slice none 0 0],.iface 60 (.int .i64 11)]) ?_ rfl ⟨⟨_,by rw [HE.out];rfl,by rw [HE.out];exact HSV.out⟩,HKE.out⟩;simp [results,Tryz.results20,go_sem,Y.out.1,Y.out.2.1,Y.out.2.2.1,Y.out.2.2.2.1,Y.out.2.2.2.2.1,Y.out.2.2.2.2.2]
theorem kU {ps:List Rw} {f:Fm} {V T:Nat} {p:List Nat × List Nat} {out:List (Nat × Nat)} (hok:Ok f V T) (hs:cC V T f=true) (hl:dx V T f.nodes=some p) (hc:cq p.1=some out) (hV:ps.length=V) :
  sumWs ps out out.length=EX (eP ps) V (fun s=>ind (covB p.1 s)):=by
 obtain ⟨_,hm,_⟩:=dt hok hs hl;have hb24:∀ b∈p.1,b<16777216:=fun b hb=>by have:=hm b hb;unfold Mk at this;omega
 have hbV:=dK hok hs hl;have hbits:=pU (Pr:=wI V) (fun b hb c hc d hd=>yp (gy (hbV b hb)) hc d hd) (fun b hb=>⟨gy (hbV b hb),fun j hj=>by simp at hj⟩) hc;have hok3:=nW hb24 hc;have hcond:∀ c∈out,c.1 &&& c.2=0/\(∀ i,c.1.testBit i=true->i<ps.length)/\∀ i,c.2.testBit i=true->i<ps.length:=fun c hc=>⟨(hok3 c hc).2.2,by rw [hV];exact (hbits c hc).1,by rw [hV];exact (hbits c hc).2⟩
 have e:sumWs ps out out.length=sumW (eP ps) ps.length out:=by unfold sumWs;rw [List.take_length]
 rw [e,Cl hcond,hV];refine bA fun s _=>?_
 rw [xM hb24 hc s];unfold ind;by_cases h:covB p.1 s=true
 ·rw [if_pos h,if_pos h];rfl
 ·rw [if_neg h,if_neg h];rfl
theorem Au (ps:List Rw):fQ ps=gm (eP ps) ps.length:=funext fun s=>Fs ps s
theorem AC (ps:List Rw):gQ ps=gI (eP ps) ps.length:=funext fun s=>Fu ps s
theorem w_ {f:Fm} {V T:Nat} {p:List Nat × List Nat} {l:List Nat} (hok:Ok f V T) (hs:cC V T f=true) (hl:dx V T f.nodes=some p) (hp:cu V T f.nodes=some l) (hm:∀ x∈l,Mk x) (s:Nat):iP l s=covB p.1 s:=by
 rw [yf hok hs hp hm s];obtain ⟨_,_,hup⟩:=dt hok hs hl;rw [Bool.eq_iff_iff,Eu,hup s]
theorem sf {ps:List Rw} {f:Fm} {V T:Nat} {p:List Nat × List Nat} {out:List (Nat × Nat)} (hok:Ok f V T) (hs:cC V T f=true) (hl:dx V T f.nodes=some p) (hc:cq p.1=some out) (hV:ps.length=V) (hpo:∀ r∈ps,r.Ok) (hbad:bI ps=false) :
  sumWs ps out out.length<=1 - aP (fQ ps) p.1/\aC (fQ ps) p.1<=sumWs ps out out.length:=by
 have hbV:∀ t∈p.1,∀ i,t.testBit i=true->i<V:=fun t ht=>gy (dK hok hs hl t ht)
 have hq:∀ i,i<V->0<=eP ps i/\eP ps i<=1:=by rw [<-hV];exact tC hpo hbad
 rw [kU hok hs hl hc hV,Au,k_,p',hV];exact ⟨CE hq hbV,AM hq hbV⟩
theorem ru {ps:List Rw} {f:Fm} {V T:Nat} {p:List Nat × List Nat} {out:List (Nat × Nat)} {l:List Nat} (hok:Ok f V T) (hs:cC V T f=true) (hl:dx V T f.nodes=some p) (hc:cq p.1=some out) (hV:ps.length=V) (hpo:∀ r∈ps,r.Ok) (hbad:bI ps=false)
  (hp:cu V T f.nodes=some l) (hm:∀ x∈l,Mk x):aP (gQ ps) l<=sumWs ps out out.length/\sumWs ps out out.length<=1 - aC (gQ ps) l:=by
 have hbV:∀ t∈l,∀ i,t.testBit i=true->i<V:=fun t ht=>gy (dU hok hs hp hm t ht)
 have hq:∀ i,i<V->0<=eP ps i/\eP ps i<=1:=by rw [<-hV];exact tC hpo hbad
 have e:sumWs ps out out.length=EX (eP ps) V (fun s=>ind (iP l s)):=by
  rw [kU hok hs hl hc hV];exact bA fun s _=>by rw [w_ hok hs hl hp hm s]
 rw [e,AC,k_,p',hV];exact ⟨AZ hq hbV,Dp hq hbV⟩
theorem uF {ps:List Rw} {f:Fm} {V T:Nat} {p:List Nat × List Nat} {out:List (Nat × Nat)} (hok:Ok f V T) (hs:cC V T f=true) (hl:dx V T f.nodes=some p) (hc:cq p.1=some out) (hV:ps.length=V) (ha:cV p.1 0=true) :
  1 - aP (fQ ps) p.1=sumWs ps out out.length:=by
 have hbV:∀ t∈p.1,∀ i,t.testBit i=true->i<V:=fun t ht=>gy (dK hok hs hl t ht)
 rw [kU hok hs hl hc hV,Au,k_,hV];exact uf hbV ha
theorem tf {ps:List Rw} {f:Fm} {V T:Nat} {p:List Nat × List Nat} {out:List (Nat × Nat)} {l:List Nat} (hok:Ok f V T) (hs:cC V T f=true) (hl:dx V T f.nodes=some p) (hc:cq p.1=some out) (hV:ps.length=V)
  (hp:cu V T f.nodes=some l) (hm:∀ x∈l,Mk x) (ha:cV l 0=true):aP (gQ ps) l=sumWs ps out out.length:=by
 have hbV:∀ t∈l,∀ i,t.testBit i=true->i<V:=fun t ht=>gy (dU hok hs hp hm t ht)
 rw [kU hok hs hl hc hV,AC,k_,hV,sO hbV ha];exact bA fun s _=>by rw [w_ hok hs hl hp hm s]
theorem kA {ps:List Rw} {l:List Nat} (hg:Good l) (hm:∀ r∈l,Mk r) (hlt:∀ s∈l,nz s<(ps.length:Int)) (hbad:bI ps=false):lF (aO l) ps=0:=by
 unfold lF;rw [pR hg hm,cP,if_neg (by simp),if_neg,hbad]
 ·rfl
 ·intro h;obtain ⟨s,hs,h1⟩:=List.any_eq_true.1 h;have:=hlt s hs;have:=of_decide_eq_true h1;omega
section
variable {xs:List Int} {ps:List Rw} {r:Rw} {i:Nat}
end
theorem pl (v:Value) (a b:Rat) (w:World) (hv:SpanV w v (ah a) (ah b)) (ha:(ah a).Short 200000) (hb:(ah b).Short 200000) (hab:a<=b):Calls Tryz.prog 37 #[v] w fun e w'=>e=.returned (.bool true)/\af w w':=by
 have HVA:Hid (∀ x,(ah x).Short 200000->∀ W u,RatAt W u (ah x)->Calls Tryz.prog 68 #[u] W fun e w'=>e=.returned (.bool true)/\af W w'):=ae fun x hx W u hu=>by
  have h:=hJ u _ W hu ⟨Nat.le_trans hx.1 (by omega),Nat.le_trans hx.2 (by omega)⟩;rw [gL] at h;exact h
 obtain ⟨S,hS⟩:∃ S,S=cO (a - b):=⟨_,rfl⟩;have hS0:S<=0:=by rw [hS];exact (fb a b).2 hab
 have HCM:Hid (∀ W u1 u2,RatAt W u1 (ah a)->RatAt W u2 (ah b)->Calls Tryz.prog 29 #[u1,u2] W fun e w'=>e=.returned (.int .i64 S)/\af W w'):=ae fun W u1 u2 k1 k2=>by
  have h:=gA u1 u2 _ _ W k1 k2 ⟨Nat.le_trans ha.1 (by omega),Nat.le_trans ha.2 (by omega)⟩ ⟨Nat.le_trans hb.1 (by omega),Nat.le_trans hb.2 (by omega)⟩;rw [al,al,<-hS] at h;exact h
 have HV1:=ae (HVA.out a ha);have HV2:=ae (HVA.out b hb);obtain ⟨a1,c1,a2,c2,a3,c3,a4,c4,rfl,h1,h2,h3,h4⟩:=hv.shape;obtain ⟨w1,hw1⟩:∃ w1,w1=w.alloc (.cells #[.bool (ah a).neg,.slice a1 (ah a).num.length c1,.slice a2 (ah a).den.length c2,.bool (ah b).neg,.slice a3 (ah b).num.length c3,.slice a4 (ah b).den.length c4] 44):=⟨_,rfl⟩;have HX1:Hid (SpnAt w1 w.heap.size (ah a) (ah b)):=ae (by rw [hw1];exact SpnAt.made h1 h2 h3 h4);have HK1:Hid (af w w1):=ae (by rw [hw1];exact (af.refl _).alloc _);have hk1:=HK1.out;have y1:=h1.kept hk1;have y2:=h2.kept hk1;have y3:=h3.kept hk1;have y4:=h4.kept hk1;have HLO:Hid (∀ W,af w1 W->RatAt W (.agg #[.bool (ah a).neg,.slice a1 (ah a).num.length c1,.slice a2 (ah a).den.length c2]) (ah a)):=ae fun W h=>⟨_,_,rfl,y1.kept h,y2.kept h⟩
 have HHI:Hid (∀ W,af w1 W->RatAt W (.agg #[.bool (ah b).neg,.slice a3 (ah b).num.length c3,.slice a4 (ah b).den.length c4]) (ah b)):=ae fun W h=>⟨_,_,rfl,y3.kept h,y4.kept h⟩
 have hr1:ai w1 w.heap.size 44 [.bool (ah a).neg,.slice a1 (ah a).num.length c1,.slice a2 (ah a).den.length c2,.bool (ah b).neg,.slice a3 (ah b).num.length c3,.slice a4 (ah b).den.length c4]:=by
  rw [hw1];exact ai.made w #[.bool (ah a).neg,.slice a1 (ah a).num.length c1,.slice a2 (ah a).den.length c2,.bool (ah b).neg,.slice a3 (ah b).num.length c3,.slice a4 (ah b).den.length c4] 44
 have HR1:=ae hr1;have x0:=hr1.cell (i:=0) (by simp);have x1:=hr1.cell (i:=1) (by simp);have x2:=hr1.cell (i:=2) (by simp);simp only [List.getElem_cons_succ,List.getElem_cons_zero] at x0 x1 x2;have HW1:=ae hw1;have dS:decide (S<=0)=true:=decide_eq_true hS0;generalize (ah a).neg=e0 at *;generalize (ah a).num.length=e1 at *;generalize (ah a).den.length=e2 at *;generalize (ah b).neg=e3 at *;generalize (ah b).num.length=e4 at *;generalize (ah b).den.length=e5 at *;clear hv ha hb hab hS hw1 h1 h2 h3 h4 y1 y2 y3 y4 hr1 hk1 HVA;go_enter Tryz.func37,Tryz.ntmps37;go_wp2_with fail;rw [<-HW1.out];refine (HV1.out _ _ (HLO.out _ (af.refl _))).mono ?_;rintro e w2 ⟨rfl,hk2⟩;have z3:=(HR1.out.kept hk2).cell (i:=3) (by simp);have z4:=(HR1.out.kept hk2).cell (i:=4) (by simp);have z5:=(HR1.out.kept hk2).cell (i:=5) (by simp);simp only [List.getElem_cons_succ,List.getElem_cons_zero] at z3 z4 z5;have HK2:=ae hk2;clear hk2 x0 x1 x2;go_wp2_with fail;refine (HV2.out _ _ (HHI.out _ HK2.out)).mono ?_;rintro e w3 ⟨rfl,hk3⟩;have hk13:=HK2.out.trans hk3;have HK3:=ae hk13;have q:=fun i (hi:i<6)=>(HR1.out.kept hk13).cell (i:=i) (by simpa using hi)
 have q0:=q 0 (by omega);have q1:=q 1 (by omega);have q2:=q 2 (by omega);have q3:=q 3 (by omega);have q4:=q 4 (by omega);have q5:=q 5 (by omega);simp only [List.getElem_cons_succ,List.getElem_cons_zero] at q0 q1 q2 q3 q4 q5;clear hk3 hk13 z3 z4 z5 q;go_wp2_with fail;refine (HCM.out _ _ _ (HLO.out _ HK3.out) (HHI.out _ HK3.out)).mono ?_;rintro e w4 ⟨rfl,hk4⟩;go_wp2;go_ret;exact ⟨by first | rfl | simp [hS0],HK1.out.trans (HK3.out.trans hk4)⟩
theorem DF (g:Nat) (a b:Rat) (w:World) (hv:ArrAt w g 29 [ah a,ah b]) (ha:(ah a).Short 200000) (hb:(ah b).Short 200000) (hab:a<=b):Calls Tryz.prog 140 #[.slice (some ⟨g,0,none⟩) 2 2] w fun e w'=>(∃ v',e=.returned v'/\SpanV w' v' (ah a) (ah b))/\af w w':=by
 have hsa:(ah a).Short 68719476736:=⟨Nat.le_trans ha.1 (by omega),Nat.le_trans ha.2 (by omega)⟩;have hsb:(ah b).Short 68719476736:=⟨Nat.le_trans hb.1 (by omega),Nat.le_trans hb.2 (by omega)⟩
 have HM:Hid (∀ x,a<=x->(ah x).Short 68719476736->∀ W u1 u2,RatAt W u1 (ah a)->RatAt W u2 (ah x)->Calls Tryz.prog 59 #[u1,u2] W fun e w'=>(∃ v',e=.returned v'/\RatAt w' v' (ah a))/\af W w'):=ae fun x hx hs W u1 u2 k1 k2=>by
  have h:=tK u1 u2 _ _ W k1 k2 hsa hs;rw [al,al,kh,if_pos hx] at h;exact h
 have HX:Hid (∀ x,a<=x->(ah x).Short 68719476736->∀ W u1 u2,RatAt W u1 (ah a)->RatAt W u2 (ah x)->Calls Tryz.prog 57 #[u1,u2] W fun e w'=>(∃ v',e=.returned v'/\RatAt w' v' (ah x))/\af W w'):=ae fun x hx hs W u1 u2 k1 k2=>by
  have h:=oW u1 u2 _ _ W k1 k2 hsa hs
  have e:gw a x=x:=by
   unfold gw;split
   ·exact Rat.le_antisymm hx (by assumption)
   ·rfl
  rw [al,al,e] at h;exact h
 have HM1:=ae (HM.out a Rat.le_refl hsa);have HX1:=ae (HX.out a Rat.le_refl hsa);have HM2:=ae (HM.out b hab hsb);have HX2:=ae (HX.out b hab hsb);obtain ⟨lo,hlo⟩:∃ lo,lo=ah a:=⟨_,rfl⟩;obtain ⟨hi,hhi⟩:∃ hi,hi=ah b:=⟨_,rfl⟩;rw [<-hlo] at HM1 HX1 HM2 HX2 hv⊢;rw [<-hhi] at HM2 HX2 hv⊢;clear ha hb hab hsa hsb HM HX hlo hhi;have HV:=ae hv;obtain ⟨w1,hw1⟩:∃ w1,w1=w.alloc (.cells #[.bool false,.slice none 0 0,.slice none 0 0,.bool false,.slice none 0 0,.slice none 0 0] 44):=⟨_,rfl⟩;have HS1:Hid (SpnAt w1 w.heap.size ⟨false,[],[]⟩ ⟨false,[],[]⟩):=ae (by rw [hw1];exact SpnAt.zero w);have HK1:Hid (af w w1):=ae (by rw [hw1];exact (af.refl _).alloc _);have HZ1:Hid (w1.heap.size=w.heap.size+1):=ae (by rw [hw1];simp);have HW1:=ae hw1;obtain ⟨n1,l1,m1,n2,l2,m2,a1,c1,a2,c2,a3,c3,a4,c4,x0,x1,x2,x3,x4,x5,hgl,HLO,HHI,_⟩:=(HV.out.kept HK1.out).read2;have HLOK:Hid (∀ W,af w1 W->RatAt W (.agg #[.bool n1,.slice a1 l1 c1,.slice a2 m1 c2]) lo):=ae fun W h=>HLO.out.kept h
 have HHIK:Hid (∀ W,af w1 W->RatAt W (.agg #[.bool n2,.slice a3 l2 c3,.slice a4 m2 c4]) hi):=ae fun W h=>HHI.out.kept h
 have HX345:=ae (And.intro x3 (And.intro x4 x5));clear hv hw1 x3 x4 x5;go_enter Tryz.func140,Tryz.ntmps140;go_upto_region 1 with fail
 go_cut [3] (fun p wx=>∃ G:Nat,p=.pointer (some ⟨G,0,none⟩)/\Hid (w.heap.size<G/\SpnAt wx G lo lo/\af w1 wx))
 case first =>
  rw [<-HW1.out]
  go_region_held3 (fun w'=>w'.cell? ⟨g,0,none⟩=some (.bool n1)/\w'.cell? ⟨g,1,none⟩=some (.slice a1 l1 c1)/\w'.cell? ⟨g,2,none⟩=some (.slice a2 m1 c2))
   (first | go_keep | (refine (fun hq:af w1 _=>⟨hq.cell x0,hq.cell x1,hq.cell x2⟩) ?_;repeat (with_reducible first | exact HKF3.out | exact HKF2.out | exact af.refl _ | apply af.drew | apply af.alloc | refine af.store ?_ (by omega) _ _)))
   (first
   | (go_at_call 59;(with_reducible refine (HM1.out _ _ _ (HLOK.out _ (by repeat (with_reducible first | exact af.refl _ | apply af.drew | apply af.alloc))) (HLOK.out _ (by repeat (with_reducible first | exact af.refl _ | apply af.drew | apply af.alloc)))).mono ?_);rintro e w2 ⟨⟨v2,rfl,hv2⟩,hk2⟩;have hkf:af w1 w2:=(by refine af.trans ?_ hk2;repeat (with_reducible first | exact af.refl _ | apply af.drew | apply af.alloc));have HKF2:=ae hkf;have hz2:=hkf.size;obtain ⟨s1,s2,s3,s4,s5,s6,s7,rfl⟩:=hv2.parts;have HV2:=ae hv2;(try have HB2:Hid (SpnAt w2 w1.heap.size ⟨false,[],[]⟩ ⟨false,[],[]⟩):=ae (by with_reducible first | exact SpnAt.kept ((SpnAt.zero w1).kept (af.refl _).drew) hk2 | exact SpnAt.kept (SpnAt.zero w1.drew) hk2));clear hk2 hkf hv2)
   | (go_at_call 57;(with_reducible refine (HX1.out _ _ _ (HLOK.out _ (by repeat (with_reducible first | exact HKF2.out | apply af.drew | apply af.alloc))) (HLOK.out _ (by repeat (with_reducible first | exact HKF2.out | apply af.drew | apply af.alloc)))).mono ?_);rintro e w3 ⟨⟨v3,rfl,hv3⟩,hk3⟩;have hkf:af w2 w3:=(by refine af.trans ?_ hk3;repeat (with_reducible first | exact af.refl _ | apply af.drew | apply af.alloc));have HKF3:=ae (HKF2.out.trans hkf);have hz3:=HKF3.out.size;have HV2B:=ae (HV2.out.kept hkf);obtain ⟨r1,r2,r3,r4,r5,r6,r7,rfl⟩:=hv3.parts;have HV3:=ae hv3;(try have HB3:=ae (by with_reducible exact SpnAt.kept (SpnAt.zero w2) hk3));(try have HB3:=ae (HB2.out.kept hkf));(try obtain ⟨_,_,_,_,_,_,_,_,⟨t0,t1,t2,t3,t4,t5⟩,hfr,hgb,_⟩:=HB3.out.at);(try have f0:=hfr 0);(try have f1:=hfr 1);(try have f2:=hfr 2);(try have f3:=hfr 3);(try have f4:=hfr 4);(try have f5:=hfr 5);clear hk3 hkf hv3))
  all_goals go_wp2_with fail
  all_goals go_meet
  all_goals
   have hsv:=SpanV.of2 HV2B.out HV3.out;have hz1:=HZ1.out;have hk3:=HKF3.out
   first
    | with_reducible exact ⟨_,rfl,ae ⟨by omega,SpnAt.lay hsv,hk3.alloc _⟩⟩
    | with_reducible exact ⟨_,rfl,ae ⟨by omega,HB3.out.set hsv,(((((hk3.store (by omega) _ _).store (by omega) _ _).store (by omega) _ _).store (by omega) _ _).store (by omega) _ _).store (by omega) _ _⟩⟩
 case rest =>
  obtain ⟨G,rfl,HG⟩:=hcut;obtain ⟨wa,rfl⟩:∃ wa:World,wa=wc:=⟨_,rfl⟩;have HKa:=ae HG.out.2.2;have HSG:=ae HG.out.2.1;have hG1:w1.heap.size<=G:=by have h1:=HG.out.1;have h2:=HZ1.out;omega
  clear x0 x1 x2 hgl;go_wp2_with fail;go_loopg [24] 1 (fun kx s24 wr=>∃ t:Nat,t<=1/\s24=.int .i64 t/\1 - t<=kx/\Hid (af w1 wr)/\Hid (SpnAt wr G lo (if t=0 then lo else hi)))
  case atStart=>exact ⟨0,by omega,rfl,by omega,HKa,HSG⟩
  case round =>
   obtain ⟨t,ht,rfl,htx,HKr,HSr⟩:=hrel;by_cases ht0:t=0
   ·subst ht0;obtain ⟨wo,rfl⟩:∃ wo:World,wo=wr:=⟨_,rfl⟩;have x3:=HKr.out.cell HX345.out.1;have x4:=HKr.out.cell HX345.out.2.1;have x5:=HKr.out.cell HX345.out.2.2;have hglo:=World.block_lt_of_cell? _ _ x3;obtain ⟨w4,hw4⟩:∃ w4,w4=wo.alloc (.cells #[.bool n2,.slice a3 l2 c3,.slice a4 m2 c4] 29):=⟨_,rfl⟩;have hk4:af wo w4:=by rw [hw4];exact (af.refl _).alloc _
    have HXV:=ae (HHIK.out _ (HKr.out.trans hk4));have HS4:Hid (SpnAt w4 G lo lo):=ae (by have h:=HSr.out;rw [if_pos rfl] at h;exact h.kept hk4);have hr4:=ai.made wo #[.bool n2,.slice a3 l2 c3,.slice a4 m2 c4] 29;rw [<-hw4] at hr4;have z0:=hr4.cell (i:=0) (by simp);have z1:=hr4.cell (i:=1) (by simp);have z2:=hr4.cell (i:=2) (by simp);simp only [List.getElem_cons_succ,List.getElem_cons_zero] at z0 z1 z2;have hfr:=HS4.out.free;have f0:=hfr 0;have f1:=hfr 1;have f2:=hfr 2;have f3:=hfr 3;have f4:=hfr 4;have f5:=hfr 5;obtain ⟨n5,l5,m5,n6,l6,m6,a5,c5,a6,c6,a7,c7,a8,c8,y0,y1,y2,y3,y4,y5,hgl4,HYL,HYH,_⟩:=HS4.out.read;have HW4:=ae hw4;have HK4:=ae hk4;clear hr4 hfr hw4 hk4;have hgo:G<wo.heap.size:=by have h:=HSr.out;rw [if_pos rfl] at h;obtain ⟨_,_,_,_,_,_,_,_,_,_,h,_⟩:=h.at;exact h
    go_upto_region 5 with fail
    rw [<-HW4.out]
    go_region_law (first
     | (rw [if_pos (by rfl)];go_simp;go_at_call 59;(with_reducible refine (HM2.out _ _ _ (HYL.out.kept (by repeat (with_reducible first | exact af.refl _ | apply af.drew))) (HXV.out.kept (by repeat (with_reducible first | exact af.refl _ | apply af.drew)))).mono ?_);rintro e w5 ⟨⟨v5,rfl,hv5⟩,hk5⟩;have hkf:af w4 w5:=(af.refl w4).drew.trans hk5;have HK5:=ae hkf;have HO5:Hid (az G w4 w5):=ae (az.kept hkf);obtain ⟨s1,s2,s3,s4,s5,s6,s7,rfl⟩:=hv5.parts;have HV5:=ae hv5;have p0:=hkf.cell y0;have p1:=hkf.cell y1;have p2:=hkf.cell y2;have p3:=hkf.cell y3;have p4:=hkf.cell y4;have p5:=hkf.cell y5;have q0:=hkf.cell z0;have q1:=hkf.cell z1;have q2:=hkf.cell z2;have hg5:=World.block_lt_of_cell? _ _ p0;have hg6:=World.block_lt_of_cell? _ _ q0;clear hk5 hkf hv5)
     | (rw [if_pos (by rfl)];go_simp;go_at_call 57;(with_reducible refine (HX2.out _ _ _ (HYH.out.kept HK5.out) (HXV.out.kept HK5.out)).mono ?_);rintro e w6 ⟨⟨v6,rfl,hv6⟩,hk6⟩;have hkf:af w4 w6:=HK5.out.trans hk6;have HK6:=ae hkf;have HO6:Hid (az G w4 w6):=ae (az.kept hkf);obtain ⟨r1,r2,r3,r4,r5,r6,r7,rfl⟩:=hv6.parts;have HV6:=ae hv6;have HV5B:=ae (HV5.out.kept hk6);have t0:=hkf.cell y0;have t1:=hkf.cell y1;have t2:=hkf.cell y2;have t3:=hkf.cell y3;have t4:=hkf.cell y4;have t5:=hkf.cell y5;have hg7:=World.block_lt_of_cell? _ _ t0;have hfr:=(HS4.out.kept hkf).free;have j0:=hfr 0;have j1:=hfr 1;have j2:=hfr 2;have j3:=hfr 3;have j4:=hfr 4;have j5:=hfr 5;clear hfr hk6 hkf hv6))
    all_goals
     have hsv:=ae (HS4.out.kept HK6.out |>.set (SpanV.of2 HV5B.out HV6.out));have hkz:=ae ((((((((HKr.out.trans HK4.out).trans HK6.out).store hG1 0 (.bool s1)).store hG1 1 (.slice s4 s2 s5)).store hG1 2 (.slice s6 s3 s7)).store hG1 3 (.bool r1)).store hG1 4 (.slice r4 r2 r5)).store hG1 5 (.slice r6 r3 r7));clear p0 p1 p2 p3 p4 p5 q0 q1 q2 t0 t1 t2 t3 t4 t5 j0 j1 j2 j3 j4 j5;go_wp2_with fail;go_roundg 0
     case measure=>omega
     case rel=>exact ⟨1,Nat.le_refl _,rfl,by omega,hkz,ae (by rw [if_neg (by decide)];exact hsv.out)⟩
   ·have ht1:t=1:=by omega
    subst ht1;have hss:SpnAt wr G lo hi:=by have h:=HSr.out;rw [if_neg (by decide)] at h;exact h
    obtain ⟨n5,l5,m5,n6,l6,m6,a5,c5,a6,c6,a7,c7,a8,c8,y0,y1,y2,y3,y4,y5,hgl4,_,_,HSV⟩:=hss.read;obtain ⟨_,_,_,_,_,_,_,_,_,_,_,_,_,_,w',e9,hw',⟨⟨z0,p0⟩,⟨z1,p1⟩,⟨z2,p2⟩,⟨z3,p3⟩,⟨z4,p4⟩,⟨z5,p5⟩⟩,⟨f0,f1,f2,f3,f4,f5⟩,hl9,Y,HSP,_,_,HKP⟩:=(HS1.out.kept HKr.out).put HSV.out;simp only [Value.agg.injEq,Array.mk.injEq,List.cons.injEq,Value.bool.injEq,Value.slice.injEq,and_true] at e9;obtain ⟨rfl,⟨rfl,rfl,rfl⟩,⟨rfl,rfl,rfl⟩,rfl,⟨rfl,rfl,rfl⟩,rfl,rfl,rfl⟩:=e9;have HKE:=ae (HKP.out _ (HK1.out.trans HKr.out) (Nat.le_refl _));rw [hw'] at Y HSP HKE;clear hw' hss;go_wp2;refine bodyPost_ret (v:=.agg #[.bool n5,.slice a5 l5 c5,.slice a6 m5 c6,.bool n6,.slice a7 l6 c7,.slice a8 m6 c8]) ?_ rfl ⟨⟨_,rfl,HSP.out⟩,HKE.out⟩;simp [results,Tryz.results140,go_sem,Y.out.1,Y.out.2.1,Y.out.2.2.1,Y.out.2.2.2.1,Y.out.2.2.2.2.1,Y.out.2.2.2.2.2]
def GF (ps:List Rw) (l:List Nat) (m:Nat):List Rw:=(List.range 13).map fun k=>ah (FW ps l k m)
def Gy (ps:List Rw) (l:List Nat):List Rw:=(List.range 13).map fun k=>ah (Fv ps l k)
def Gr (ps:List Rw) (l:List Nat) (k:Nat):List Rw:=(List.range 13).map fun j=>if j<k then ah (Ek ps l j) else ⟨false,[],[]⟩
def Gq (ps:List Rw) (l:List Nat):List Rw:=(List.range 13).map fun j=>ah (Ek ps l j)
def GG (xs:List Int) (ps:List Rw) (k:Int):Rat:=if EB xs ps k=0 then Fv ps (aR xs) k.toNat else 0
def Gh (xs:List Int) (ps:List Rw) (k:Int):Rat:=if EB xs ps k=0 then Ek ps (aR xs) k.toNat else 0
def GJ (ps:List Rw) (l:List Nat):Nat->Rat
 | 0=>0
 | k+1=>Gc ps l k
def GI (ps:List Rw) (l:List Nat):Nat->Rat
 | 0=>1
 | k+1=>Ga ps l k
def Gs (xs:List Int) (ps:List Rw) (k:Int):Rat × Rat:=if EB xs ps k=0 then (Gc ps (aR xs) k.toNat,Ga ps (aR xs) k.toNat) else (0,0)
theorem RatCell.apartA {w w':World} {p g:Nat} {t:TypeId} {rs:List Rw} {r:Rw} (h:RatCell w p r) (hne:p≠g) (hg:ArrAt w g t rs) (ho:az g w w'):RatCell w' p r:=by
 obtain ⟨row,hf,hn⟩:=hg.fix;obtain ⟨a1,c1,a2,c2,h1,h2,h3,h4⟩:=h;have hl:=h2.lt;obtain ⟨cur,e2,k1,k2⟩:=h2;exact ⟨a1,c1,a2,c2,ho.row h1 hne,⟨cur,e2,(ho.block p hl hne).trans k1,k2⟩,h3.apart hf hn ho,h4.apart hf hn ho⟩
end Go.Proofs.YtofibjflkebkpaaGreatDoor
