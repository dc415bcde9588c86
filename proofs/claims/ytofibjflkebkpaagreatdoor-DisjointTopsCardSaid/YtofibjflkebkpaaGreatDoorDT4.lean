import Derived.WalkKit
import Derived.WalkSpells
import Derived.WalkLawsBesides
import Derived.Deep.QuietTactic
import Derived.BigQuiet
import Derived.Lib.Hide
import Derived.Shelf.Abstract
import Derived.Deep.RegionWith
import Derived.Laws.AppendOwnNone
import Derived.Lib.AppendZerosOnto
import Derived.Lib.SliceRun
import Derived.Lib.SlicesCompact
import Derived.Shelf.SlSortCmp.NoneTotal
import Derived.Maps.OwnOps
import Derived.Maps.OwnSet
import Derived.Maps.Views
import Derived.Deep.MidRow
import Derived.Deep.RegionHeld3
import Derived.Deep.AppendLies
import Derived.Deep.RegionLaw
import Derived.IntWalk
import Derived.StillTailTactics
import Derived.RegionTactic
import Derived.BigRegion
import Derived.ChangeAlike
import Derived.Sort.LotD2
import Derived.Sort.LotA
import Derived.Shelf.SlSortCmp.PdqK
import Derived.Deep.DeepCutAuto
import Derived.Lib.ItoaNum
import Derived.Deep.LoopGhost
import Derived.Test.YtofibjflkebkpaaGreatDoorDT3
import Derived.Test.YtofibjflkebkpaaGreatDoorDT2
import Derived.Test.YtofibjflkebkpaaGreatDoorDT1
import Derived.ProofKit
import Derived.OpenShut
import Derived.SizedLaws
import Derived.Lib.SmallJoins
import Derived.Deep.Slices
import Derived.Deep.Fields
import Derived.Deep.Strs
import Derived.Carry
set_option maxRecDepth 100000
set_option maxHeartbeats 16000000
namespace Go.Proofs.YtofibjflkebkpaaGreatDoor
open Go.RowKit
def ExpSt (W wx:World) (V:Nat) (fs:Value) (T:Int) (y0 y1 y2:Nat) (kd kk:Int) (us:Value):Prop :=
 af W wx/\ai wx W.heap.size 41 [.int .i64 V,fs,.int .i64 T]/\ai wx (W.heap.size+1) 99 [.int .i64 y0,.int .u64 y1,.int .u64 y2]/\ai wx (W.heap.size+1+1) 106 [.int .i64 kd,.int .i64 kk,us]
theorem ai.made2 (w:World) (cs:Array Value) (e:TypeId) (o:Obj):ai ((w.alloc (.cells cs e)).alloc o) w.heap.size e cs.toList:=(ai.made w cs e).kept ((af.refl _).alloc o)
theorem ai.made3 (w:World) (cs:Array Value) (e:TypeId) (o p:Obj):ai (((w.alloc (.cells cs e)).alloc o).alloc p) w.heap.size e cs.toList:=(ai.made w cs e).kept (((af.refl _).alloc o).alloc p)
theorem ru (W w2:World) (V:Nat) (fs:Value) (T:Int) (x0 x1 x2 y0 y1 y2:Nat) (kd kk:Int) (us:Value)
  (h:af (((W.alloc (.cells #[.int .i64 V,fs,.int .i64 T] 41)).alloc (.cells #[.int .i64 x0,.int .u64 x1,.int .u64 x2] 99)).alloc (.cells #[.int .i64 kd,.int .i64 kk,us] 106)) w2) :
  ExpSt W (((w2.setCell ⟨W.heap.size+1,0,none⟩ (.int .i64 y0)).setCell ⟨W.heap.size+1,1,none⟩ (.int .u64 y1)).setCell ⟨W.heap.size+1,2,none⟩ (.int .u64 y2)) V fs T y0 y1 y2 kd kk us:=by
 have k0:af W w2:=((((af.refl W).alloc _).alloc _).alloc _).trans h;have r1:ai w2 W.heap.size 41 [.int .i64 V,fs,.int .i64 T]:=(ai.made3 W #[.int .i64 V,fs,.int .i64 T] _ _ _).kept h
 have r2:ai w2 (W.heap.size+1) 99 [.int .i64 x0,.int .u64 x1,.int .u64 x2]:=by
  have:=(ai.made2 (W.alloc (.cells #[.int .i64 V,fs,.int .i64 T] 41)) #[.int .i64 x0,.int .u64 x1,.int .u64 x2] 99 (.cells #[.int .i64 kd,.int .i64 kk,us] 106)).kept h;simpa using this
 have r3:ai w2 (W.heap.size+1+1) 106 [.int .i64 kd,.int .i64 kk,us]:=by
  have:=(ai.made ((W.alloc (.cells #[.int .i64 V,fs,.int .i64 T] 41)).alloc (.cells #[.int .i64 x0,.int .u64 x1,.int .u64 x2] 99)) #[.int .i64 kd,.int .i64 kk,us] 106).kept h;simpa using this
 refine ⟨((k0.store (by omega) 0 _).store (by omega) 1 _).store (by omega) 2 _,((r1.other (by omega) 0 _).other (by omega) 1 _).other (by omega) 2 _,?_,((r3.other (by omega) 0 _).other (by omega) 1 _).other (by omega) 2 _⟩;have:=((r2.store 0 (.int .i64 y0)).store 1 (.int .u64 y1)).store 2 (.int .u64 y2);simpa using this
theorem yz {W w2:World} {FB NB:Obj} {x0 x1 x2:Value} {e:TypeId} (h:af (((W.alloc FB).alloc (.cells #[x0,x1,x2] e)).alloc NB) w2):ai w2 (W.heap.size+1) e [x0,x1,x2]:=by
 have:=(ai.made2 (W.alloc FB) #[x0,x1,x2] e NB).kept h;simpa using this
theorem rv (gl B V i r b o n c:Nat) (T:Int) (x:Nd) (ua:Option Addr) (un uc:Nat) (v:Value) (L:List Nat) (W:World) (hB:B<=gl) (hV:V<=24) (hBW:B<=W.heap.size) (hL:ListAt W gl B v L) (hl:L.length<=4097) (hr:aB 152 r) (hi:i<128) (hin:i<n)
  (hnd:W.rangeAt b (o+i*3) [.int .i64 x.kind,.int .i64 x.k,.slice ua un uc]) (hia:∀ w',Below B W w'->aq w' (.slice ua un uc) x.args) (hargs:∀ a∈x.args,0<=a/\a<(V:Int)+128) (h16:x.args.length<=16)
  (hkd:x.kind=0\/x.kind=2\/x.kind=3\/x.kind=4) (hk4:x.kind=4->1<=x.k/\x.k<=x.args.length) :
  Calls Tryz.prog 128 #[.pointer (some ⟨gl,0,none⟩),.agg #[.int .i64 V,.slice (some ⟨b,o,none⟩) n c,.int .i64 T],cP r,.int .i64 i] W fun e w'=>e=.returned (.tuple #[])/\∃ v',ListAt w' gl B v' ((L++bV V x i r).take 4097)/\dE gl v v' W w':=by
 obtain ⟨kd,kk,args⟩:=x;simp only at hnd hia hargs h16 hkd hk4;have hr1:aB 152 (aD r (2^(24+i))):=fun j hj=>by rw [bA] at hj;simp at hj;exact hr j hj.1
 have HWO:Hid (∀ W',Calls Tryz.prog 184 #[cP r,.int .i64 i] W' fun e w'=>e=.returned (cP (aD r (2^(24+i))))/\af W' w'):=ae fun W'=>oI hr i hi W'
 have HEX:Hid (bV V ⟨kd,kk,args⟩ i r=if kd=0 then (if kk=1 then [aD r (2^(24+i))] else []) else if kd=2 then [args.foldl (aJ V) (aD r (2^(24+i)))] else if kd=3 then args.map (aJ V (aD r (2^(24+i)))) else ay V args kk.toNat (aD r (2^(24+i)))):=rfl;generalize aD r (2^(24+i))=r1 at *;obtain ⟨ex,hex⟩:∃ ex,ex=bV V ⟨kd,kk,args⟩ i r:=⟨_,rfl⟩;rw [<-hex] at HEX⊢;have HL:=ae hL;have HR1:=ae hr1;have HIA:=ae hia;have HARG:=ae hargs
 have hun:un=args.length:=by
  obtain ⟨_,_,h,_⟩:=hia W (Below.refl _ _);injection h
 have HUN:=ae hun;have hun16:un<=16:=by omega
 obtain ⟨y0,hy0⟩:∃ y,y=aZ r1:=⟨_,rfl⟩;obtain ⟨y1,hy1⟩:∃ y,y=cr r1:=⟨_,rfl⟩;obtain ⟨y2,hy2⟩:∃ y,y=b_ r1:=⟨_,rfl⟩;have HY:Hid (y0=aZ r1/\y1=cr r1/\y2=b_ r1):=⟨hy0,hy1,hy2⟩;unfold cP at *;rw [<-hy0,<-hy1,<-hy2] at HWO;generalize aZ r=x0 at *;generalize cr r=x1 at *;generalize b_ r=x2 at *;have hii:(i:Int)<(n:Int):=by omega
 have HND:Hid (∀ C1 C2,((W.alloc C1).alloc C2).rangeAt b (o+i*3) [.int .i64 kd,.int .i64 kk,.slice ua un uc]):=ae fun C1 C2=>f_ hnd (((af.refl W).alloc C1).alloc C2)
 have hgl:=hL.1.lt;have HK4:=ae hk4;clear hL hr hr1 hnd hin hi hia hargs hun hex hy0 hy1 hy2 hk4;go_enter Tryz.func128,Tryz.ntmps128;go_upto_region 2 with (first | (with_reducible refine wpList_load_mid rfl 106 _ rfl b (o+i*3) rfl _ _ (HND.out _ _) Tryz.underlying106 rfl (by kernel_rfl) ?_))
 go_cut [] (fun wx=>Hid (ExpSt W wx V (.slice (some ⟨b,o,none⟩) n c) T y0 y1 y2 kd kk (.slice ua un uc)))
 case first =>
  go_wp2_with fail;refine (HWO.out _).mono ?_;rintro e w2 ⟨rfl,hk2⟩;have hbx:=yz hk2;have d0:=hbx.cell (i:=0) (by simp);have d1:=hbx.cell (i:=1) (by simp);have d2:=hbx.cell (i:=2) (by simp);have f0:=hbx.free 0;have f1:=hbx.free 1;have f2:=hbx.free 2;simp only [List.getElem_cons_succ,List.getElem_cons_zero] at d0 d1 d2;clear hbx;have HS:=ae (ru W w2 V (.slice (some ⟨b,o,none⟩) n c) T x0 x1 x2 y0 y1 y2 kd kk (.slice ua un uc) hk2);clear hk2;go_wp2;go_meet;exact HS
 case rest =>
  obtain ⟨hkc,hf,hrw,hnw⟩:=hcut.out;have hsz:W.heap.size+1+1<wc.heap.size:=hnw.lt;have e0:=hf.cell (i:=0) (by simp);have e1:=hf.cell (i:=1) (by simp);have e2:=hf.cell (i:=2) (by simp);have d0:=hrw.cell (i:=0) (by simp);have d1:=hrw.cell (i:=1) (by simp);have d2:=hrw.cell (i:=2) (by simp);have m0:=hnw.cell (i:=0) (by simp);have m1:=hnw.cell (i:=1) (by simp);have m2:=hnw.cell (i:=2) (by simp);simp only [List.getElem_cons_succ,List.getElem_cons_zero] at e0 e1 e2 d0 d1 d2 m0 m1 m2;have HKC:=ae hkc
  have HAD:Hid (∀ z W',aB 152 z->af wc W'->Calls Tryz.prog 129 #[.pointer (some ⟨gl,0,none⟩),.agg #[.int .i64 (aZ z),.int .u64 (cr z),.int .u64 (b_ z)]] W' fun e w'=>e=.returned (.tuple #[])/\∃ v',ListAt w' gl B v' ((L++[z]).take 4097)/\dE gl v v' W w'):=ae fun z W' hz hk=>by
   have:=iW gl B z v L W' (HL.out.kept (hkc.trans hk)) hz hl hB;rw [gI hl] at this;exact this.mono fun _ _ ⟨h1,v',h2,h3⟩=>⟨h1,v',h2,(dE.of_kept (hkc.trans hk)).trans h3⟩
  have HEXS:=hcut;clear hcut hkc hf hrw hnw HWO HND;rcases hkd with hkd | hkd | hkd | hkd
  ·subst hkd;by_cases hk1:kk=1
   ·have hk1b:(kk == 1)=true:=by simpa using hk1
    have hex:ex=[r1]:=by rw [HEX.out,if_pos rfl,if_pos hk1]
    have HA:=HAD.out r1 wc HR1.out (af.refl _);rw [<-HY.out.1,<-HY.out.2.1,<-HY.out.2.2] at HA;rw [<-hex] at HA;have HA2:=ae HA;clear hk1 hex HA;go_wp2_with (go_at_call 129;refine HA2.out.mono ?_;rintro e w3 ⟨rfl,v',h3,h4⟩);refine bodyPost_end (results_none rfl _ _ _) rfl ?_;exact ⟨rfl,v',h3,h4⟩
   ·have hk1b:(kk == 1)=false:=by simpa using hk1
    have hex:ex=[]:=by rw [HEX.out,if_pos rfl,if_neg hk1]
    have HF:Hid (ListAt wc gl B v ((L++ex).take 4097)):=ae (by rw [hex,List.append_nil,List.take_of_length_le hl];exact HL.out.kept HKC.out);clear hk1 hex HAD;go_wp2;refine bodyPost_end (results_none rfl _ _ _) rfl ?_;exact ⟨rfl,v,HF.out,dE.of_kept HKC.out⟩
  ·subst hkd;have hex:ex=[args.foldl (aJ V) r1]:=by rw [HEX.out,if_neg (by decide),if_pos rfl]
   have HXE:=ae hex;clear hex HEX;go_wp2;clear d0 d1 d2;go_loopg [44] un (fun kx s44 wr=>∃ (k:Nat) (rk:Nat),s44=.int .i64 k/\k<=un/\un - k<=kx/\Hid (rk=(args.take k).foldl (aJ V) r1/\aB 152 rk)/\Hid (ExpSt W wr V (.slice (some ⟨b,o,none⟩) n c) T (aZ rk) (cr rk) (b_ rk) 2 kk (.slice ua un uc)))
   case atStart=>exact ⟨0,r1,rfl,Nat.zero_le _,by omega,ae ⟨rfl,HR1.out⟩,by rw [<-HY.out.1,<-HY.out.2.1,<-HY.out.2.2];exact HEXS⟩
   case round =>
    clear e0 e1 e2 m0 m1 m2;obtain ⟨k,rk,rfl,hk,hkx,HRK,HST⟩:=hrel;obtain ⟨hkc,hf,hrw,hnw⟩:=HST.out;have hsz2:W.heap.size+1+1<wr.heap.size:=hnw.lt;have e0:=hf.cell (i:=0) (by simp);have e1:=hf.cell (i:=1) (by simp);have e2:=hf.cell (i:=2) (by simp);have d0:=hrw.cell (i:=0) (by simp);have d1:=hrw.cell (i:=1) (by simp);have d2:=hrw.cell (i:=2) (by simp);simp only [List.getElem_cons_succ,List.getElem_cons_zero] at e0 e1 e2 d0 d1 d2;by_cases hlt:k<un
    ·have hka:k<args.length:=by have:=HUN.out;omega
     obtain ⟨ba,oa,rfl,hca⟩:∃ ba oa,ua=some ⟨ba,oa,none⟩/\wr.cell? ⟨ba,oa+k,none⟩=some (.int .i64 args[k]):=by
      obtain ⟨a',c',h1,_,_,h4⟩:=HIA.out wr (hkc.mono hBW);injection h1 with h1 h2 h3
      subst h1;exact h4 k hka
     have ha:=HARG.out args[k] (List.getElem_mem _);have HWI:Hid (∀ W',Calls Tryz.prog 125 #[.agg #[.int .i64 (aZ rk),.int .u64 (cr rk),.int .u64 (b_ rk)],.agg #[.int .i64 V,.slice (some ⟨b,o,none⟩) n c,.int .i64 T],.int .i64 args[k]] W' fun e w'=>e=.returned (cP (aJ V rk args[k]))/\af W' w'):=ae fun W'=>gR HRK.out.2 V _ T ⟨_,_,_,rfl⟩ hV args[k] ha W'
     have HRK2:Hid (aJ V rk args[k]=(args.take (k+1)).foldl (aJ V) r1/\aB 152 (aJ V rk args[k])):=ae ⟨by rw [List.take_succ_eq_append_getElem hka,List.foldl_append,<-HRK.out.1];rfl,eY HRK.out.2 (d_ (cG (V:=V) (m:=128) (by omega) hV) (by omega))⟩;unfold cP at HWI;obtain ⟨rk2,hrk2⟩:∃ x,x=aJ V rk args[k]:=⟨_,rfl⟩;rw [<-hrk2] at HWI HRK2;obtain ⟨ak,hak⟩:∃ x,x=args[k]:=⟨_,rfl⟩;rw [<-hak] at hca HWI;have HST2:=ae (⟨hkc,hf,hrw,hnw⟩:ExpSt W wr V (.slice (some ⟨b,o,none⟩) n c) T (aZ rk) (cr rk) (b_ rk) 2 kk (.slice (some ⟨ba,oa,none⟩) un uc));generalize aZ rk=z0 at *;generalize cr rk=z1 at *;generalize b_ rk=z2 at *;clear hkc hf hrw hnw ha hak hrk2 HST;go_wp2_with fail;refine (HWI.out _).mono ?_;rintro e w2 ⟨rfl,hk2⟩;have hrw2:=HST2.out.2.2.1.kept hk2;have d0':=hrw2.cell (i:=0) (by simp);have d1':=hrw2.cell (i:=1) (by simp);have d2':=hrw2.cell (i:=2) (by simp);have f0:=hrw2.free 0;have f1:=hrw2.free 1;have f2:=hrw2.free 2;simp only [List.getElem_cons_succ,List.getElem_cons_zero] at d0' d1' d2'
     have HS3:Hid (ExpSt W (((w2.setCell ⟨W.heap.size+1,0,none⟩ (.int .i64 (aZ rk2))).setCell ⟨W.heap.size+1,1,none⟩ (.int .u64 (cr rk2))).setCell ⟨W.heap.size+1,2,none⟩ (.int .u64 (b_ rk2))) V (.slice (some ⟨b,o,none⟩) n c) T (aZ rk2) (cr rk2) (b_ rk2) 2 kk (.slice (some ⟨ba,oa,none⟩) un uc)):=ae (by
      obtain ⟨g1,g2,g3,g4⟩:=HST2.out;refine ⟨((((g1.trans hk2).store (by omega) 0 _).store (by omega) 1 _).store (by omega) 2 _),(((g2.kept hk2).other (by omega) 0 _).other (by omega) 1 _).other (by omega) 2 _,?_,(((g4.kept hk2).other (by omega) 0 _).other (by omega) 1 _).other (by omega) 2 _⟩;have:=(((g3.kept hk2).store 0 (.int .i64 (aZ rk2))).store 1 (.int .u64 (cr rk2))).store 2 (.int .u64 (b_ rk2));simpa using this)
     clear hrw2 hk2 e0 e1 e2 d0 d1 d2;go_wp2;go_roundg (un - (k+1))
     case measure=>omega
     case rel=>exact ⟨k+1,rk2,by go_num,by omega,Nat.le_refl _,HRK2,HS3⟩
    ·have hke:k=un:=by omega
     have hrk:rk=args.foldl (aJ V) r1:=by rw [HRK.out.1,hke,HUN.out,List.take_length]
     have HA2:Hid (Calls Tryz.prog 129 #[.pointer (some ⟨gl,0,none⟩),.agg #[.int .i64 (aZ rk),.int .u64 (cr rk),.int .u64 (b_ rk)]] wr fun e w'=>e=.returned (.tuple #[])/\∃ v',ListAt w' gl B v' ((L++ex).take 4097)/\dE gl v v' W w'):=ae (by
      have:=iW gl B rk v L wr (HL.out.kept hkc) HRK.out.2 hl hB;rw [gI hl] at this;rw [HXE.out,<-hrk];exact this.mono fun _ _ ⟨h1,v',h2,h3⟩=>⟨h1,v',h2,(dE.of_kept hkc).trans h3⟩)
     generalize aZ rk=z0 at *;generalize cr rk=z1 at *;generalize b_ rk=z2 at *;clear hke hrk hkc hf hrw hnw HAD;go_wp2_with (go_at_call 129;refine HA2.out.mono ?_;rintro e w3 ⟨rfl,v',h3,h4⟩);refine bodyPost_end (results_none rfl _ _ _) rfl ?_;exact ⟨rfl,v',h3,h4⟩
  ·subst hkd;have hex:ex=args.map (aJ V r1):=by rw [HEX.out,if_neg (by decide),if_neg (by decide),if_pos rfl]
   have HXE:=ae hex;have HOWN:Hid (∀ g,v.ownBlock=some g->g<W.heap.size):=ae fun g hg=>(HL.out.2.own_ge hg).2
   clear hex HEX HAD;go_wp2;go_loopg [61] un (fun kx s61 wr=>∃ (k:Nat) (vk:Value),s61=.int .i64 k/\k<=un/\un - k<=kx/\Hid (ListAt wr gl B vk ((L++(args.take k).map (aJ V r1)).take 4097))/\Hid (dE gl v vk wc wr))
   case atStart=>exact ⟨0,v,rfl,Nat.zero_le _,by omega,ae (by rw [List.take_zero,List.map_nil,List.append_nil,List.take_of_length_le hl];exact HL.out.kept HKC.out),ae (dE.of_kept (af.refl _))⟩
   case round =>
    clear m0 m1 m2;obtain ⟨k,vk,rfl,hk,hkx,HLK,HFK⟩:=hrel;have hsz2:=HFK.out.size;by_cases hlt:k<un
    ·have hka:k<args.length:=by have:=HUN.out;omega
     have hbelow:Below B W wr:=(dE.trans (dE.of_kept HKC.out) HFK.out).below HL.out.2 hB hBW
     obtain ⟨ba,oa,rfl,hca⟩:∃ ba oa,ua=some ⟨ba,oa,none⟩/\wr.cell? ⟨ba,oa+k,none⟩=some (.int .i64 args[k]):=by
      obtain ⟨a',c',h1,_,_,h4⟩:=HIA.out wr hbelow;injection h1 with h1 h2 h3
      subst h1;exact h4 k hka
     have hne:∀ j,j<2->some (W.heap.size+j)≠v.ownBlock:=fun j hj e=>by have:=HOWN.out _ e.symm;omega
     have hne1:some W.heap.size≠v.ownBlock:=hne 0 (by omega);have hne2:some (W.heap.size+1)≠v.ownBlock:=hne 1 (by omega);have e0':=HFK.out.cell (by omega) (by omega) hne1 e0;have e1':=HFK.out.cell (by omega) (by omega) hne1 e1;have e2':=HFK.out.cell (by omega) (by omega) hne1 e2;have d0':=HFK.out.cell (by omega) (by omega) hne2 d0;have d1':=HFK.out.cell (by omega) (by omega) hne2 d1;have d2':=HFK.out.cell (by omega) (by omega) hne2 d2;have E0:=ae e0;have E1:=ae e1;have E2:=ae e2;have D0:=ae d0;have D1:=ae d1;have D2:=ae d2;have ha:=HARG.out args[k] (List.getElem_mem _);obtain ⟨rk2,hrk2⟩:∃ x,x=aJ V r1 args[k]:=⟨_,rfl⟩
     have HWI:Hid (∀ W',Calls Tryz.prog 125 #[.agg #[.int .i64 y0,.int .u64 y1,.int .u64 y2],.agg #[.int .i64 V,.slice (some ⟨b,o,none⟩) n c,.int .i64 T],.int .i64 args[k]] W' fun e w'=>e=.returned (cP rk2)/\af W' w'):=ae fun W'=>by
      have:=gR HR1.out V (.slice (some ⟨b,o,none⟩) n c) T ⟨_,_,_,rfl⟩ hV args[k] ha W';rw [<-hrk2] at this;unfold cP at this;rw [<-HY.out.1,<-HY.out.2.1,<-HY.out.2.2] at this;exact this
     have hrl:aB 152 rk2:=by rw [hrk2];exact eY HR1.out (d_ (cG (V:=V) (m:=128) (by omega) hV) (by omega))
     have HA2:Hid (∀ W',af wr W'->Calls Tryz.prog 129 #[.pointer (some ⟨gl,0,none⟩),cP rk2] W' fun e w'=>e=.returned (.tuple #[])/\∃ v',Hid (ListAt w' gl B v' ((L++(args.take (k+1)).map (aJ V r1)).take 4097))/\Hid (dE gl v v' wc w')):=ae fun W' hk=>by
      have hlen:((L++(args.take k).map (aJ V r1)).take 4097).length<=4097:=by rw [List.length_take];omega
      have:=iW gl B rk2 vk _ W' (HLK.out.kept hk) hrl hlen hB;rw [gI hlen,jA,List.append_assoc] at this;rw [List.take_succ_eq_append_getElem hka,List.map_append,List.map_singleton,<-hrk2];exact this.mono fun _ _ ⟨h1,v',h2,h3⟩=>⟨h1,v',ae h2,ae ((HFK.out.trans (dE.of_kept hk)).trans h3)⟩
     obtain ⟨ak,hak⟩:∃ x,x=args[k]:=⟨_,rfl⟩;rw [<-hak] at hca HWI;unfold cP at HWI HA2;generalize aZ rk2=z0 at *;generalize cr rk2=z1 at *;generalize b_ rk2=z2 at *;clear ha hak hrk2 hrl hne hne1 hne2 e0 e1 e2 d0 d1 d2 hbelow HLK HFK;go_wp2_with fail;refine (HWI.out _).mono ?_;rintro e w2 ⟨rfl,hk2⟩;go_wp2_with (go_at_call 129;refine (HA2.out _ hk2).mono ?_;rintro e w3 ⟨rfl,v',h3,h4⟩);go_roundg (un - (k+1))
     case measure=>omega
     case rel=>exact ⟨k+1,v',by go_num,by omega,Nat.le_refl _,h3,h4⟩
    ·have hke:k=un:=by omega
     have HF:Hid (ListAt wr gl B vk ((L++ex).take 4097)):=ae (by have h:=HLK.out;rw [hke,HUN.out,List.take_length,<-HXE.out] at h;exact h);clear hke e0 e1 e2 d0 d1 d2;go_wp2;refine bodyPost_end (results_none rfl _ _ _) rfl ?_;exact ⟨rfl,vk,HF.out,(dE.of_kept HKC.out).trans HFK.out⟩
  ·subst hkd;obtain ⟨K,rfl⟩:=Int.eq_ofNat_of_zero_le (show 0<=kk by have:=HK4.out rfl;omega);have hK9:K<=16:=by have:=HK4.out rfl;omega
   have hex:ex=ay V args K r1:=by rw [HEX.out,if_neg (by decide),if_neg (by decide),if_neg (by decide)];rfl
   have HCH:Hid (∀ W',af wc W'->Calls Tryz.prog 185 #[.pointer (some ⟨gl,0,none⟩),.agg #[.int .i64 V,.slice (some ⟨b,o,none⟩) n c,.int .i64 T],.agg #[.int .i64 y0,.int .u64 y1,.int .u64 y2],.slice ua un uc,.int .i64 K] W' fun e w'=>e=.returned (.tuple #[])/\∃ v',ListAt w' gl B v' ((L++ex).take 4097)/\dE gl v v' W w'):=ae fun W' hk=>by
    have h:=rd gl B V T (.slice (some ⟨b,o,none⟩) n c) W ⟨_,_,_,rfl⟩ hV hB hBW args (.slice ua un uc) HIA.out HARG.out (by omega) K r1 v L W' ((HKC.out.trans hk).mono hBW) (HL.out.kept (HKC.out.trans hk)) hl HR1.out (by omega);rw [hex,HY.out.1,HY.out.2.1,HY.out.2.2];exact h.mono fun _ _ ⟨h1,v',h2,h3⟩=>⟨h1,v',h2,(dE.of_kept (HKC.out.trans hk)).trans h3⟩
   clear hex HAD;go_wp2_with (go_at_call 185;refine (HCH.out _ (af.refl _)).mono ?_;rintro e w3 ⟨rfl,v',h3,h4⟩);refine bodyPost_end (results_none rfl _ _ _) rfl ?_;exact ⟨rfl,v',h3,h4⟩
theorem rZ (c:Nat):∀ u∈aU c,u.oneCell'=true:=fun u hu=>by simp [aU] at hu;rcases hu with rfl | rfl | rfl <;> rfl
theorem v_ (L:List Nat):∀ u∈L.flatMap aU,u.oneCell'=true:=fun u hu=>by
 obtain ⟨c,_,h⟩:=List.mem_flatMap.1 hu;exact rZ c u h
theorem kW (b o j:Nat):(⟨b,o,none⟩:Addr).add j=⟨b,o+j,none⟩:=by unfold Addr.add;split <;> simp_all
theorem sW {ops:Array Oper} {rest:List Oper} {o:Oper} {a:Act} {Q:Exit->Act->World->Prop} {w:World} (hgd:o.guard=none) (s x:Operand)
  (ho:o.op=.call { callee:=.builtin .append,args:=#[s,x],argTypes:=#[93,93] }) (B:Nat) (v:Value) (L:List Nat) (hs:a.eval s=v) (hown:aM w B v L)
  (ad:Addr) (n c:Nat) (M:List Nat) (hx:a.eval x=.slice (some ad) n c) (hu:dj w (.slice (some ad) n c) M) (hl:L.length+M.length<=10000) (hB:B<=w.heap.size)
  (h:∀ v' w',aM w' B v' (L++M)->Below B w w'->wpList Tryz.prog ops Q rest (a.put o.dst v') w'):wpList Tryz.prog ops Q (o :: rest) a w:=by
 obtain ⟨i0,hi0,hz0,hz1,hz2⟩:=info_parts pw;obtain ⟨a',c',h1,h2,h3,h4,h5⟩:=hu;cases h1;refine wpList_append_own _ hgd s x 93 ho B 99 i0 _ 3 24 Tryz.underlying93 hi0 hz0 hz1 hz2 rfl (by decide) v L.length _ hs hown.1 ad M.length c (M.flatMap aU) hx (lC M) ?_ (v_ M) (by simp [maxLen];omega) (by omega) hB ?_
 ·intro j u hj
  have hj':j<M.length*3:=by
   rw [<-lC];exact (List.getElem?_eq_some_iff.1 hj).1
  obtain ⟨b,o,h6,h7⟩:=h5 (j / 3) (by omega);cases h6;have e:=pp M (j / 3) (by omega) (j % 3) (by omega);rw [show j / 3*3+j % 3=j by omega,hj] at e;have:=h7 (j % 3) u e.symm;rw [kW];rw [show o+j=o+j / 3*3+j % 3 by omega];exact this
 ·intro v' w' h6 h7 _;refine h v' w' ⟨by rw [List.flatMap_append,List.length_append];exact h6,by simp;omega,fun c hc=>?_⟩ (aW h7 hown.1 hB);rcases List.mem_append.1 hc with hc | hc
  ·exact hown.2.2 c hc
  ·exact h4 c hc
theorem rS (w:World) (B:Nat) (hB:B<=w.heap.size):aM (w.alloc (.cells #[] 99)) B (.slice (some ⟨w.heap.size,0,none⟩) 0 0) [] :=
 ⟨⟨by simp,.inr ⟨w.heap.size,0,#[],rfl,hB,heap_alloc_new w _,Nat.le_refl _,by unfold maxLen;omega,by simp,by simp⟩⟩,by simp,by simp⟩
theorem re (v:Value) (L:List Nat) (w:World) (hv:dj w v L) :
  Calls Tryz.prog 186 #[v] w fun e w'=>(∃ v',e=.returned v'/\aM w' w.heap.size v' L)/\af w w':=by
 have HV:=ae hv;obtain ⟨sa,c,rfl,⟨_,hn0⟩,hl,_⟩:=hv;cases sa with
 | none =>
  have hc0:=hn0 rfl;subst hc0
  have hL0:L=[]:=by
   obtain ⟨_,_,h1,_,_,_,h5⟩:=HV.out;cases L with
   | nil=>rfl
   | cons x l =>
    obtain ⟨b,o,h6,_⟩:=h5 0 (by simp);injection h1 with h1
    rw [h6] at h1;cases h1
  subst hL0;have hnl:∀ w:World,(binOp .eql 93 (.slice none 0 0) (.slice none 0 0)).run Tryz.prog w=.ok (.bool true) w:=fun w=>Lib.run_eql_slice_nil w 93 99 none 0 0 0 0 Tryz.underlying93
  clear hn0 hl;show Calls _ _ #[.slice none 0 0] _ _;go_enter Tryz.func186,Tryz.ntmps186;go_wp2;go_ret;exact ⟨⟨_,rfl,aM.nil _ _⟩,af.refl _⟩
 | some ad =>
  obtain ⟨n,hn⟩:∃ n,n=L.length:=⟨_,rfl⟩;have HV2:Hid (dj w (.slice (some ad) n c) L):=ae (by rw [hn];exact HV.out);rw [<-hn] at hl⊢;have HN:=ae hn;clear hn hn0 HV;have hnl:∀ w:World,(binOp .eql 93 (.slice (some ad) n c) (.slice none 0 0)).run Tryz.prog w=.ok (.bool false) w:=fun w=>Lib.run_eql_slice_nil w 93 99 (some ad) n c 0 0 Tryz.underlying93
  go_enter Tryz.func186,Tryz.ntmps186;go_wp2_with (at_builtin;refine sW rfl _ _ rfl w.heap.size _ [] rfl (rS w _ (Nat.le_refl _)) ad n c L rfl (HV2.out.kept ((af.refl _).alloc _)) (by simp;have:=HN.out;omega) (by simp) ?_;intro v7 w7 hown7 hb7;have O7:=ae hown7;have HB7:=ae hb7;clear hown7 hb7);go_ret;exact ⟨⟨_,rfl,O7.out⟩,((af.refl _).alloc _).app HB7.out⟩
def DecidesR (g:Nat) (lb:Array Value) (p:Nat->Bool) (w:World):Prop :=
 ∀ (W:World) (x:Nat),af w W->aB 152 x->Calls Tryz.prog g (#[cP x]++lb) W fun e W'=>e=.returned (.bool (p x))/\af W W'
theorem rE (g:Nat) (lb:Array Value) (eg:∀ args w,(callFunc g args).run Tryz.prog w=.ok (.enter g args) w) (p:Nat->Bool) (v:Value) (L:List Nat) (w:World)
  (hp:DecidesR g lb p w) (hv:dj w v L) :
  Calls Tryz.prog 242 #[v,.func (.func g) #[] lb] w fun e w'=>(∃ n:Int,e=.returned (.int .i64 n)/\(decide (0<=n)=L.any p))/\af w w':=by
 obtain ⟨a,c,rfl,⟨hc,_⟩,hl,hlt,hx⟩:=hv;obtain ⟨n,hn⟩:∃ n,n=L.length:=⟨_,rfl⟩;have hbig:n<=10000:=by omega
 rw [<-hn];have HX:=ae hx;have HN:=ae hn;have HP:=ae hp;have HLT:=ae hlt;clear hx hn hp hl hc hlt;go_enter Tryz.func242,Tryz.ntmps242;go_wp2;go_loopg [8] n (fun kx i wr=>∃ k:Nat,k<=n/\i=.int .i64 k/\n - k<=kx/\Hid (∀ x∈L.take k,p x=false)/\Hid (af w wr))
 case atStart=>exact ⟨0,Nat.zero_le _,rfl,by omega,ae (by simp),ae (af.refl _)⟩
 case round =>
  obtain ⟨k,hk,rfl,hkx,HF,HK⟩:=hrel;by_cases hlt:k<n
  ·have hkl:k<L.length:=by have:=HN.out;omega
   obtain ⟨b,o,rfl,hrg⟩:=HX.out k hkl;have hrg2:=f_ hrg HK.out;have hxl:=HLT.out L[k] (List.getElem_mem _);obtain ⟨x,hxx⟩:∃ x,x=L[k]:=⟨_,rfl⟩;rw [<-hxx] at hrg2 hxl;have HXX:=ae hxx;have HRG:Hid (wr.rangeAt b (o+k*3) [.int .i64 (aZ x),.int .u64 (cr x),.int .u64 (b_ x)]):=ae hrg2;have HC:Hid (∀ W,af w W->Calls Tryz.prog g (#[.agg #[.int .i64 (aZ x),.int .u64 (cr x),.int .u64 (b_ x)]]++lb) W fun e W'=>e=.returned (.bool (p x))/\af W W'):=ae fun W hk=>HP.out W x hk hxl
   have hkn:(k:Int)<(n:Int):=by omega
   obtain ⟨z0,hz0⟩:∃ z,z=aZ x:=⟨_,rfl⟩;obtain ⟨z1,hz1⟩:∃ z,z=cr x:=⟨_,rfl⟩;obtain ⟨z2,hz2⟩:∃ z,z=b_ x:=⟨_,rfl⟩;rw [<-hz0,<-hz1,<-hz2] at HRG HC;clear hrg hrg2 hxx hxl hz0 hz1 hz2;cases hq:p x with
   | true =>
    rw [hq] at HC;have HQ:=ae hq;clear hq;go_wp2_with (first | (with_reducible refine wpList_load_mid rfl 99 _ rfl b (o+k*3) rfl _ _ HRG.out Tryz.underlying99 rfl (by kernel_rfl) ?_) | (go_at_fn g;refine (HC.out _ HK.out).mono ?_;rintro e w' ⟨rfl,hK2⟩));go_ret;refine ⟨⟨k,rfl,?_⟩,HK.out.trans hK2⟩
    have:L.any p=true:=List.any_eq_true.2 ⟨x,by rw [HXX.out];exact List.getElem_mem _,HQ.out⟩
    rw [this];simp
   | false =>
    rw [hq] at HC;have HQ:=ae hq;clear hq;go_wp2_with (first | (with_reducible refine wpList_load_mid rfl 99 _ rfl b (o+k*3) rfl _ _ HRG.out Tryz.underlying99 rfl (by kernel_rfl) ?_) | (go_at_fn g;refine (HC.out _ HK.out).mono ?_;rintro e w' ⟨rfl,hK2⟩));go_roundg (n - (k+1))
    case measure=>omega
    case rel =>
     refine ⟨k+1,by omega,by go_num,Nat.le_refl _,ae ?_,ae (HK.out.trans hK2)⟩;intro y hy;rw [List.take_succ_eq_append_getElem hkl] at hy;rcases List.mem_append.1 hy with hy | hy
     ·exact HF.out y hy
     ·simp at hy;rw [hy,<-HXX.out];exact HQ.out
  ·go_wp2;go_ret;refine ⟨⟨-1,rfl,?_⟩,HK.out⟩;have hh:=HF.out;rw [List.take_of_length_le (by have:=HN.out;omega)] at hh
   have:L.any p=false:=by rw [List.any_eq_false];intro y hy;simp [hh y hy]
   rw [this];rfl
theorem wv (g:Nat) (lb:Array Value) (eg:∀ args w,(callFunc g args).run Tryz.prog w=.ok (.enter g args) w) (p:Nat->Bool) (v:Value) (L:List Nat) (w:World)
  (hp:DecidesR g lb p w) (hv:dj w v L) :
  Calls Tryz.prog 190 #[v,.func (.func g) #[] lb] w fun e w'=>e=.returned (.bool (L.any p))/\af w w':=by
 have h:=rE g lb eg p v L w hp hv;have H:=ae h;clear h hp hv eg;obtain ⟨r,hr⟩:∃ r,r=L.any p:=⟨_,rfl⟩;rw [<-hr] at H⊢;clear hr;go_enter Tryz.func190,Tryz.ntmps190;go_wp2_with (go_at_call 242;refine H.out.mono ?_;rintro e w' ⟨⟨n,rfl,hn⟩,hK⟩;have HN:=ae hn;clear hn);go_ret;exact ⟨by rw [<-HN.out];rfl,hK⟩
theorem nW (c B:Nat) (w:World) (hc:aB 152 c) (h0:w.cell? ⟨B,0,none⟩=some (.int .i64 (aZ c))) (h1:w.cell? ⟨B,1,none⟩=some (.int .u64 (cr c))) (h2:w.cell? ⟨B,2,none⟩=some (.int .u64 (b_ c))) :
  DecidesR 191 #[.pointer (some ⟨B,0,none⟩)] (fun t=>subN t c) w:=by
 intro W x hK hx;show Calls Tryz.prog _ _ W fun e W'=>e=.returned (.bool (subN x c))/\af W W'
 have h0':=hK.cell h0;have h1':=hK.cell h1;have h2':=hK.cell h2;have HP:Hid (∀ W',Calls Tryz.prog 192 #[cP x,cP c] W' fun e w'=>e=.returned (.bool (subN x c))/\∃ C O,w'=(W'.alloc C).alloc O):=ae fun W'=>uR hx hc W'
 have hbl:B<W.heap.size:=by
  by_cases h:B<W.heap.size
  ·exact h
  ·simp [World.cell?,Array.getElem?_eq_none (Nat.le_of_not_lt h)] at h0'
 unfold cP at *;generalize subN x c=q at *;generalize aZ c=y0 at *;generalize cr c=y1 at *;generalize b_ c=y2 at *;generalize aZ x=z0 at *;generalize cr x=z1 at *;generalize b_ x=z2 at *;clear h0 h1 h2 hK hx hc;show Calls Tryz.prog 191 #[.agg #[.int .i64 z0,.int .u64 z1,.int .u64 z2],.pointer (some ⟨B,0,none⟩)] W _;go_enter Tryz.func191,Tryz.ntmps191;go_wp2_with (go_at_call 192;refine (HP.out _).mono ?_;rintro e w' ⟨rfl,C,O,rfl⟩);go_ret;exact ⟨rfl,(((af.refl _).alloc _).alloc _).alloc _⟩
theorem yj {ops:Array Oper} {rest:List Oper} {o:Oper} {a:Act} {Q:Exit->Act->World->Prop} {w:World} (hgd:o.guard=none) (s x:Operand)
  (ho:o.op=.call { callee:=.builtin .append,args:=#[s,x],argTypes:=#[93,93] }) (B:Nat) (v:Value) (L:List Nat) (hs:a.eval s=v) (hown:aM w B v L)
  (g c:Nat) (hx:a.eval x=.slice (some ⟨g,0,none⟩) 1 1) (hu:w.rangeAt g 0 (aU c)) (hc:aB 152 c) (hl:L.length<10000) (hB:B<=w.heap.size)
  (h:∀ v' w',aM w' B v' (L++[c])->Below B w w'->wpList Tryz.prog ops Q rest (a.put o.dst v') w'):wpList Tryz.prog ops Q (o :: rest) a w :=
 sW hgd s x ho B v L hs hown ⟨g,0,none⟩ 1 1 [c] hx ⟨_,1,rfl,⟨by simp,fun h=>by cases h⟩,by simp,by simpa using hc,fun i hi=>⟨g,0,rfl,by
  have:i=0:=by simpa using hi
  subst this;simpa using hu⟩⟩ (by simp;omega) hB h
theorem ut (l:List Nat) (k:Nat) (h:k<l.length):jR (l.take (k+1))=aN (jR (l.take k)) l[k]:=by
 unfold jR;rw [List.take_succ_eq_append_getElem h,List.foldl_append];rfl
theorem uK (w:World) (x0 x1 x2:Value) (e:TypeId):(w.alloc (.cells #[x0,x1,x2] e)).rangeAt w.heap.size 0 [x0,x1,x2]:=by
 intro j v hj
 match j,hj with
 | 0,hj=>simp at hj;subst hj;simp
 | 1,hj=>simp at hj;subst hj;simp
 | 2,hj=>simp at hj;subst hj;simp
theorem lA (v:Value) (L:List Nat) (w:World) (hv:dj w v L) (hl:L.length<=4097) :
  Calls Tryz.prog 130 #[v] w fun e w'=>(∃ v' M,e=.returned v'/\aM w' w.heap.size v' M/\M.Perm (bq L))/\af w w':=by
 have HCL:=ae (re v L w hv);have eg2:∀ args w,(callFunc 191 args).run Tryz.prog w=.ok (.enter 191 args) w:=enters_of Tryz.func191 (by kernel_rfl) rfl;have EG2:=ae eg2;have hsh:∃ a n c,v=.slice a n c:=by obtain ⟨a,c,h⟩:=hv.shape;exact ⟨a,_,c,h⟩
 obtain ⟨a,nn,c,rfl⟩:=hsh;clear hv eg2;go_enter Tryz.func130,Tryz.ntmps130;go_wp2_with fail;refine HCL.out.mono ?_;rintro e w1 ⟨⟨v1,rfl,ho1⟩,hk1⟩;have HS:=ae (mg w.heap.size v1 L w1 ho1 hk1.size);obtain ⟨a1,c1,hv1⟩:=ho1.at.shape;obtain ⟨n,hn⟩:∃ n,n=L.length:=⟨_,rfl⟩;rw [<-hn] at hv1 hl;subst hv1;have HN:=ae hn;have HK1:=ae hk1;clear hn ho1 hk1;go_wp2_with fail;refine HS.out.mono ?_;rintro e w2 ⟨rfl,M,hperm,hpair,ho2,hb2⟩;have hk2:af w w2:=HK1.out.app hb2;have HK2:=ae hk2;have HPM:Hid (M.Perm L/\M.Pairwise (fun a b=>pc a<=pc b)):=⟨hperm,hpair⟩;have hml:M.length=n:=by rw [hperm.length_eq];exact HN.out.symm
 have HML:=ae hml;have HM:Hid (∀ W,af w2 W->dj W (.slice a1 n c1) M):=ae fun W hk=>ho2.at.kept hk
 clear hperm hpair ho2 hb2 hk2 hml HS;go_wp2;go_loopg [3,12] n (fun kx s3 s12 wr=>∃ (k:Nat) (vo:Value),s3=vo/\s12=.int .i64 k/\k<=n/\n - k<=kx/\Hid (aM wr w2.heap.size vo (jR (M.take k)))/\Hid (af w2 wr))
 case atStart=>exact ⟨0,_,rfl,rfl,Nat.zero_le _,by omega,ae (aM.nil _ _),ae (af.refl _)⟩
 case round =>
  obtain ⟨k,vo,rfl,rfl,hk,hkx,HO,HK⟩:=hrel;have hsz:=HK.out.size;obtain ⟨ao,co,hvo⟩:=HO.out.at.shape;obtain ⟨mo,hmo⟩:∃ mo,mo=(jR (M.take k)).length:=⟨_,rfl⟩;rw [<-hmo] at hvo;subst hvo;by_cases hlt:k<n
  ·have hkl:k<M.length:=by have:=HML.out;omega
   have hmo9:mo<=k:=by rw [hmo];refine Nat.le_trans (pF _ []) ?_;simp;omega
   obtain ⟨b,o,rfl,hrg⟩:∃ b o,a1=some ⟨b,o,none⟩/\wr.rangeAt b (o+k*3) (aU M[k]):=by
    obtain ⟨a',c',h1,_,_,_,h5⟩:=HM.out wr HK.out;injection h1 with h1 h2 h3
    subst h1;exact h5 k hkl
   have hxl:aB 152 M[k]:=by obtain ⟨_,_,_,_,_,h4,_⟩:=HM.out wr HK.out;exact h4 _ (List.getElem_mem _)
   have hstep:=ut M k hkl;obtain ⟨x,hxx⟩:∃ x,x=M[k]:=⟨_,rfl⟩;rw [<-hxx] at hrg hxl hstep;obtain ⟨out,hout⟩:∃ out,out=jR (M.take k):=⟨_,rfl⟩;rw [<-hout] at hstep HO hmo;have HST:=ae hstep;have HXL:=ae hxl
   have HHAS:Hid (∀ W,af wr W->W.cell? ⟨wr.heap.size,0,none⟩=some (.int .i64 (aZ x))->W.cell? ⟨wr.heap.size,1,none⟩=some (.int .u64 (cr x))->W.cell? ⟨wr.heap.size,2,none⟩=some (.int .u64 (b_ x)) ->
    Calls Tryz.prog 190 #[.slice ao mo co,.func (.func 191) #[] #[.pointer (some ⟨wr.heap.size,0,none⟩)]] W fun e w'=>e=.returned (.bool (out.any fun t=>subN t x))/\af W w'):=ae fun W hk h0 h1 h2 =>
     wv 191 #[.pointer (some ⟨wr.heap.size,0,none⟩)] EG2.out (fun t=>subN t x) _ out W (nW x wr.heap.size W hxl h0 h1 h2) ((HO.out.kept hk).at)
   have HRC:Hid (aU x=[.int .i64 (aZ x),.int .u64 (cr x),.int .u64 (b_ x)]):=rfl;unfold aU at hrg;generalize aZ x=z0 at *;generalize cr x=z1 at *;generalize b_ x=z2 at *;have HRG:=ae hrg;have HMO:=ae hmo;have hkn:(k:Int)<(n:Int):=by omega
   clear hrg hxl hstep hxx hout hmo;cases hq:out.any (fun t=>subN t x) with
   | true =>
    have HQ:=ae hq;rw [hq] at HHAS;clear hq;go_wp2_with (first | (with_reducible refine wpList_load_mid rfl 99 _ rfl b (o+k*3) rfl _ _ HRG.out Tryz.underlying99 rfl (by kernel_rfl) ?_) | (go_at_call 190;refine (HHAS.out _ ((af.refl _).alloc _) (by simp) (by simp) (by simp)).mono ?_;rintro e w3 ⟨rfl,hk3⟩));go_roundg (n - (k+1))
    case measure=>omega
    case rel=>exact ⟨k+1,_,rfl,by go_num,by omega,Nat.le_refl _,ae (by rw [HST.out,aN,HQ.out];exact HO.out.kept (((af.refl _).alloc _).trans hk3)),ae (HK.out.trans (((af.refl _).alloc _).trans hk3))⟩
   | false =>
    have HQ:=ae hq;rw [hq] at HHAS;clear hq;go_wp2_with (first | (with_reducible refine wpList_load_mid rfl 99 _ rfl b (o+k*3) rfl _ _ HRG.out Tryz.underlying99 rfl (by kernel_rfl) ?_) | (go_at_call 190;refine (HHAS.out _ ((af.refl _).alloc _) (by simp) (by simp) (by simp)).mono ?_;rintro e w3 ⟨rfl,hk3⟩;have b0:=hk3.cell (p:=⟨wr.heap.size,0,none⟩) (v:=.int .i64 z0) (by simp);have b1:=hk3.cell (p:=⟨wr.heap.size,1,none⟩) (v:=.int .u64 z1) (by simp);have b2:=hk3.cell (p:=⟨wr.heap.size,2,none⟩) (v:=.int .u64 z2) (by simp);have hs3:=hk3.size;have HO3:=ae (HO.out.kept (((af.refl _).alloc _).trans hk3));have HK3:=ae (HK.out.trans (((af.refl _).alloc _).trans hk3));clear hk3) | (at_builtin;refine yj rfl _ _ rfl w2.heap.size _ out rfl (HO3.out.kept ((af.refl _).alloc _)) w3.heap.size x rfl (by rw [HRC.out];exact uK w3 _ _ _ _) HXL.out (by have:=HMO.out;omega) (by simp at hs3⊢;omega) ?_;intro v4 w4 hown4 hb4;have HO4:=ae hown4;have HB4:=ae hb4;clear hown4 hb4));go_roundg (n - (k+1))
    case measure=>omega
    case rel=>exact ⟨k+1,v4,rfl,by go_num,by omega,Nat.le_refl _,ae (by rw [HST.out,aN,HQ.out];exact HO4.out),ae ((HK3.out.alloc _).app HB4.out)⟩
  ·have hke:k=n:=by omega
   have HF:Hid (aM wr w2.heap.size (.slice ao mo co) (jR M)):=ae (by have h:=HO.out;rw [hke,<-HML.out,List.take_length] at h;exact h);clear hke hmo;go_wp2;go_ret;exact ⟨⟨_,jR M,rfl,HF.out.mono HK2.out.size,rH HPM.out.1 HPM.out.2⟩,HK2.out.trans HK.out⟩
structure ep (V T:Nat) (f:Fm) (L st:List Nat) (m:Nat):Prop where
 le:m<=f.nodes.length
 lt:∀ r∈L,aB (24+m) r
 mkd:∀ r∈L,cn V (bS V T f.nodes) r
 len:L.length<=1024
 run:∃ R:List Nat,L.Perm R/\kj V T f.nodes=(fb V f.nodes m R).map fun p=>(p.1,st++p.2)
theorem ep.start {V T:Nat} {f:Fm} (hok:Ok f V T):ep V T f [cond V T] [] f.nodes.length:=by
 have hT:=hok.tlt;refine ⟨Nat.le_refl _,fun r hr=>?_,fun r hr=>?_,by simp,⟨[cond V T],.refl _,?_⟩⟩
 ·simp at hr;subst hr;exact cG (by omega) hok.v24
 ·simp at hr;subst hr;refine gy (by omega) hok.v24 ?_;unfold bS;refine fO V f.nodes _ _ _ ?_;rw [List.getD_eq_getElem?_getD,Int.toNat_natCast,List.getElem?_set_self (by simp;omega)];rfl
 ·unfold kj;cases fb V f.nodes f.nodes.length [cond V T] with
  | none=>rfl
  | some p=>rfl
theorem ep.done {V T:Nat} {f:Fm} {L st:List Nat} {m:Nat} (h:ep V T f L st m) (hn:∀ c∈L,∀ j,c.testBit (24+j)=true->False):∃ R,kj V T f.nodes=some (R,st)/\L.Perm R:=by
 obtain ⟨R,hp,hr⟩:=h.run;refine ⟨R,?_,hp⟩;rw [hr,nB V f.nodes 0 R m (Nat.zero_le _) fun j _ _=>?_]
 ·show some (R,st++[])=_;rw [List.append_nil]
 ·rw [List.any_eq_false];intro r hr hb;exact hn r (hp.mem_iff.2 hr) j hb
theorem ep.at {V T:Nat} {f:Fm} {L st:List Nat} {m i:Nat} (h:ep V T f L st m) (hi:∃ c∈L,c.testBit (24+i)=true) (hmax:∀ c∈L,∀ j,c.testBit (24+j)=true->j<=i) :
  i<m/\(bS V T f.nodes).getD (V+i) false=true/\∃ R:List Nat,L.Perm R/\R.any (fun r=>r.testBit (24+i))=true/\kj V T f.nodes=(fb V f.nodes (i+1) R).map fun p=>(p.1,st++p.2):=by
 obtain ⟨c,hc,hb⟩:=hi;have him:i<m:=by have:=h.lt c hc _ hb;omega
 obtain ⟨R,hp,hr⟩:=h.run;refine ⟨him,h.mkd c hc i hb,R,hp,List.any_eq_true.2 ⟨c,hp.mem_iff.1 hc,hb⟩,?_⟩;rw [hr,nB V f.nodes (i+1) R m (by omega) fun j h1 _=>?_];rw [List.any_eq_false];intro r hr hb;have:=hmax r (hp.mem_iff.2 hr) j hb;omega
theorem ep.full {V T:Nat} {f:Fm} {L st:List Nat} {m i:Nat} (h:ep V T f L st m) (hi:∃ c∈L,c.testBit (24+i)=true) (hmax:∀ c∈L,∀ j,c.testBit (24+j)=true->j<=i)
  (hl:4096<(bp V (f.nodes.getD i bZ) i L).length):kj V T f.nodes=none:=by
 obtain ⟨_,_,R,hp,ha,hr⟩:=h.at hi hmax;rw [hr]
 conv=>lhs;unfold fb
 rw [if_pos ha,if_neg (by rw [<-(fD (V:=V) (i:=i) (x:=f.nodes.getD i bZ) hp).length_eq];omega)];rfl
theorem ep.many {V T:Nat} {f:Fm} {L M st:List Nat} {m i:Nat} (h:ep V T f L st m) (hi:∃ c∈L,c.testBit (24+i)=true) (hmax:∀ c∈L,∀ j,c.testBit (24+j)=true->j<=i)
  (hM:M.Perm (bq (bp V (f.nodes.getD i bZ) i L))) (hl:1024<M.length):kj V T f.nodes=none:=by
 obtain ⟨_,_,R,hp,ha,hr⟩:=h.at hi hmax;have he:=jQ (fD (V:=V) (i:=i) (x:=f.nodes.getD i bZ) hp);rw [hr]
 conv=>lhs;unfold fb
 rw [if_pos ha];split
 ·rw [if_neg (by rw [<-he,<-hM.length_eq];omega)];rfl
 ·rfl
theorem ep.next {V T:Nat} {f:Fm} (hok:Ok f V T) {L M st:List Nat} {m i:Nat} (h:ep V T f L st m) (hi:∃ c∈L,c.testBit (24+i)=true) (hmax:∀ c∈L,∀ j,c.testBit (24+j)=true->j<=i)
  (hl4:(bp V (f.nodes.getD i bZ) i L).length<=4096) (hM:M.Perm (bq (bp V (f.nodes.getD i bZ) i L))) (hl:M.length<=1024):ep V T f M (st++[M.length]) i:=by
 obtain ⟨him,hmk,R,hp,ha,hr⟩:=h.at hi hmax;have hle:=h.le;have hil:i<f.nodes.length:=by omega
 have hnd:f.nodes.getD i bZ=f.nodes[i]:=by simp [List.getD_eq_getElem?_getD,hil]
 have hmem:∀ r∈M,r∈bp V (f.nodes.getD i bZ) i L:=fun r hr=>fG (hM.mem_iff.1 hr)
 refine ⟨by omega,fun r hr=>?_,fun r hr=>?_,hl,⟨bq (bp V (f.nodes.getD i bZ) i R),?_,?_⟩⟩
 ·refine lY hok.v24 (by rw [hnd];exact hok.args i hil) (fun c hc j hj=>?_) r (hmem r hr);by_cases h24:j<24
  ·omega
  ·have:=hmax c hc (j - 24) (by rw [show 24+(j - 24)=j by omega];exact hj);omega
 ·exact kz hok.v24 h.mkd (fun hk a ha=>by rw [hnd] at ha;exact ⟨(hok.args i hil a ha).1,iY V T f hok i hil hk a ha⟩) r (hmem r hr)
 ·rw [<-jQ (fD (V:=V) (i:=i) (x:=f.nodes.getD i bZ) hp)];exact hM
 ·rw [hr];have he:=jQ (fD (V:=V) (i:=i) (x:=f.nodes.getD i bZ) hp)
  conv=>lhs;unfold fb
  rw [if_pos ha,if_pos (by rw [<-(fD (V:=V) (i:=i) (x:=f.nodes.getD i bZ) hp).length_eq];exact hl4),if_pos (by rw [<-he,<-hM.length_eq];exact hl),<-he,<-hM.length_eq];cases fb V f.nodes i (bq (bp V (f.nodes.getD i bZ) i L)) with
  | none=>rfl
  | some p=>show some _=some _;simp
theorem jI (V:Nat) (x:Nd) (i:Nat) (L:List Nat) (k:Nat) (h:k<L.length):bp V x i (L.take (k+1))=bp V x i (L.take k)++nY V x i L[k]:=by
 unfold bp;rw [List.take_succ_eq_append_getElem h,List.flatMap_append];simp
def Bc (V T:Nat) (nodes:List Nd):Option (List Nat):=(AD V T nodes).map fun l=>if T<V then [2^T] else l.getD (T - V) []
theorem vE (v:Value) (w:World):(Instr.typeAssert (.iface 60 v) 31 60 true).run Tryz.prog w=.ok (.tuple #[v,.bool true]) w:=by kernel_rfl
theorem wW (c:Nat) (w:World) (hc:c<=9223372036854775807):Calls Tryz.prog 17 #[bI c] w fun e w'=>e=.returned (.int .i64 c)/\w=w':=by
 by_cases h:c=0
 ·subst h;rw [dd];go_enter Tryz.func17,Tryz.ntmps17;go_wp2;refine bodyPost_ret (v:=.int .i64 0) ?_ rfl ⟨rfl,rfl⟩;simp [results,Tryz.results17,go_sem]
 ·rw [bJ h];clear h;go_enter Tryz.func17,Tryz.ntmps17;go_wp2;rw [vE];go_wp2;go_ret;exact ⟨rfl,rfl⟩
theorem yG (a b:List Int) (va vb:Value) (w:World) (ha:aq w va a) (hb:aq w vb b) (h:a.length≠b.length) :
  Calls Tryz.prog 158 #[va,vb] w fun e w'=>e=.returned (.bool false)/\af w w':=by
 obtain ⟨aa,ca,rfl,_,hla,hca⟩:=ha;obtain ⟨ab,cb,rfl,_,hlb,hcb⟩:=hb;have hne:((a.length:Int) == (b.length:Int))=false:=by simpa using (by omega:(a.length:Int)≠b.length)
 clear h hca hcb;go_enter Tryz.func158,Tryz.ntmps158;go_wp2;go_ret;exact ⟨rfl,af.refl _⟩
theorem yF (a b:List Int) (va vb:Value) (w:World) (ha:aq w va a) (hb:aq w vb b) :
  Calls Tryz.prog 158 #[va,vb] w fun e w'=>e=.returned (.bool (decide (a=b)))/\af w w':=by
 by_cases h:a.length=b.length
 case neg =>
  refine (yG a b va vb w ha hb h).mono ?_;rintro e w' ⟨rfl,h2⟩;refine ⟨?_,h2⟩
  have:a≠b:=fun e=>h (by rw [e])
  simp [this]
 obtain ⟨aa,ca,rfl,_,hla,hca⟩:=ha;obtain ⟨ab,cb,rfl,_,hlb,hcb⟩:=hb;obtain ⟨n,hn⟩:∃ n,n=a.length:=⟨_,rfl⟩;have hnb:n=b.length:=by omega
 rw [<-hnb,<-hn];have HA:=ae hca;have HB:=ae hcb;have Hn:=ae hn;have Hnb:=ae hnb;have hn9:n<=140737488355328:=by omega
 clear hca hcb h hn hnb hla hlb;go_enter Tryz.func158,Tryz.ntmps158;go_wp2;go_loopw [5,13] (fun _ i wr=>∃ k:Nat,k<=n/\i=.int .i64 k/\(∀ j,j<k->a[j]?=b[j]?)/\af w wr) (fun _ i _=>n - (intOf i).toNat)
 case atStart=>exact ⟨0,Nat.zero_le _,rfl,by simp,af.refl _⟩
 case round =>
  obtain ⟨k,hk,rfl,hsame,hbel⟩:=hrel;have HS:=ae hsame;clear hsame;by_cases hlt:k<n
  ·have hka:k<a.length:=by have:=Hn.out;omega
   have hkb:k<b.length:=by have:=Hnb.out;omega
   obtain ⟨ba,oa,rfl,c1⟩:=HA.out k hka;obtain ⟨bb,ob,rfl,c2⟩:=HB.out k hkb;have c1':=hbel.cell c1;have c2':=hbel.cell c2;obtain ⟨x,hx⟩:∃ x,x=a[k]:=⟨_,rfl⟩;obtain ⟨y,hy⟩:∃ x,x=b[k]:=⟨_,rfl⟩;rw [<-hx] at c1 c1';rw [<-hy] at c2 c2';have HX:=ae hx;have HY:=ae hy;have HKA:=ae hka;have HKB:=ae hkb;clear hx hy c1 c2;by_cases hxy:x=y
   ·have e1:(x == y)=true:=by simpa using hxy
    have e2:(x != y)=false:=by simpa using hxy
    have HXY:=ae hxy;clear hxy;go_wp2;go_quiet (fail);go_wp2;go_roundw
    case rel =>
     refine ⟨k+1,by omega,by simp,fun j hj=>?_,hbel.drewN _⟩;by_cases e:j=k
     ·subst e;rw [List.getElem?_eq_getElem HKA.out,List.getElem?_eq_getElem HKB.out,<-HX.out,<-HY.out,HXY.out]
     ·exact HS.out j (by omega)
    case measure=>simp [intOf];omega
   ·have e1:(x == y)=false:=by simpa using hxy
    have e2:(x != y)=true:=by simpa using hxy
    have HXY:=ae hxy;clear hxy;go_wp2;go_quiet (fail);go_wp2;go_ret;refine ⟨?_,hbel.drewN _⟩
    have:a≠b:=by
     intro e;subst e;exact HXY.out (HX.out.trans HY.out.symm)
    simp [this]
  ·go_wp2;go_ret;refine ⟨?_,hbel⟩;have hkn:k=n:=by omega
   have:a=b:=by
    apply List.ext_getElem?;intro j;by_cases hj:j<k
    ·exact HS.out j hj
    ·rw [List.getElem?_eq_none (by have:=Hn.out;omega),List.getElem?_eq_none (by have:=Hnb.out;omega)]
   simp [this]
def Bk:List Nd:=[⟨3,0,[0,1]⟩,⟨3,0,[0,2]⟩,⟨2,0,[3,4]⟩]
def Bq:Fm:=⟨3,Bk,5⟩
theorem Bm:pc 0=0/\pc 1=1/\pc 2=1/\pc 3=2/\pc 4=1/\pc 5=2/\pc 6=2/\pc 7=3:=by
 have h0:pc 0=0:=by unfold pc;simp
 have h1:pc 1=1:=by unfold pc;simp [h0]
 have h2:pc 2=1:=by unfold pc;simp [h1]
 have h3:pc 3=2:=by unfold pc;simp [h1]
 have h4:pc 4=1:=by unfold pc;simp [h2]
 have h5:pc 5=2:=by unfold pc;simp [h2]
 have h6:pc 6=2:=by unfold pc;simp [h3]
 have h7:pc 7=3:=by unfold pc;simp [h3]
 exact ⟨h0,h1,h2,h3,h4,h5,h6,h7⟩
theorem vL (k:Int) (w:World):Calls Tryz.prog 88 #[.int .i64 k,.int .i64 1,.int .i64 16] w fun e w'=>(∃ z,e=.returned (.int .i64 z))/\af w w':=by
 go_enter Tryz.func88,Tryz.ntmps88;go_wp2;all_goals (go_ret;exact ⟨⟨_,rfl⟩,af.refl _⟩)
theorem t_ (v:Value) (f:Fm) (w:World) (hv:aQ w v f.nodes) :
  Calls Tryz.prog 40 #[jE v f] w fun e w'=>(∃ b,e=.returned (.bool b))/\af w w':=by
 obtain ⟨a,c,rfl,_,hl,hx⟩:=hv;obtain ⟨n,hn⟩:∃ n,n=f.nodes.length:=⟨_,rfl⟩;rw [<-hn] at hl⊢;obtain ⟨vars,nodes,top⟩:=f;have HX:=ae hx;have HN:=ae hn;clear hx hn;show Calls _ _ #[.agg #[.int .i64 vars,.slice a n c,.int .i64 top]] _ _;go_enter Tryz.func40,Tryz.ntmps40;go_wp2
 all_goals first
  | (go_ret;exact ⟨by simp,(af.refl _).alloc _⟩)
  | skip
 all_goals
  go_loopw [3,4,36] (fun p q i wr=>∃ (k:Nat) (x y:Int),k<=n/\i=.int .i64 k/\p=.int .i64 x/\q=.int .i64 y/\af w wr) (fun _ _ i _=>n - (intOf i).toNat)
  case atStart=>exact ⟨0,0,0,Nat.zero_le _,rfl,rfl,rfl,(af.refl _).alloc _⟩
  case round =>
   obtain ⟨k,x,y,hk,rfl,rfl,rfl,hK⟩:=hrel;by_cases hlt:k<n
   ·obtain ⟨b,o,rfl,u,h1,h2,h3,h4⟩:=HX.out k (by have:=HN.out;omega);obtain ⟨ax,cx,rfl,_,hlx,hcx⟩:=h4;have hrange:=ae (dW (hK.cell h1) (hK.cell h2) (hK.cell h3));clear hcx h1 h2 h3;generalize nodes[k].kind=kd at hrange;generalize nodes[k].k=kk at hrange;generalize nodes[k].args.length=na at hrange hlx;by_cases hv4:kd=4
    ·subst hv4;go_wp2_with (with_reducible refine wpList_load_mid rfl 106 _ rfl b (o+k*3) rfl _ _ hrange.out Tryz.underlying106 rfl (by kernel_rfl) ?_);have d1:(wr.alloc (.cells #[.int .i64 4,.int .i64 kk,.slice ax na cx] 106)).cell? ⟨wr.heap.size,1,none⟩=some (.int .i64 kk):=by simp
     have d2:(wr.alloc (.cells #[.int .i64 4,.int .i64 kk,.slice ax na cx] 106)).cell? ⟨wr.heap.size,2,none⟩=some (.slice ax na cx):=by simp
     go_region_held3 (fun w'=>w'.cell? ⟨wr.heap.size,1,none⟩=some (.int .i64 kk)/\w'.cell? ⟨wr.heap.size,2,none⟩=some (.slice ax na cx))
      (first | go_keep | exact ⟨hk5.cell d1,hk5.cell d2⟩)
      (first | (go_at_call 88;refine (vL kk _).mono ?_;rintro e w5 ⟨⟨z,rfl⟩,hk5⟩))
     go_wp2;go_roundw
     case rel=>exact ⟨k+1,_,_,by omega,by simp,rfl,rfl,(hK.alloc _).trans ((af.refl _).drew.trans hk5)⟩
     case measure=>simp [intOf];omega
    ·have e4:(kd == 4)=false:=by simpa using hv4
     go_wp2_with (with_reducible refine wpList_load_mid rfl 106 _ rfl b (o+k*3) rfl _ _ hrange.out Tryz.underlying106 rfl (by kernel_rfl) ?_);go_roundw
     case rel=>exact ⟨k+1,_,_,by omega,by simp,rfl,rfl,hK.alloc _⟩
     case measure=>simp [intOf];omega
   ·go_wp2;all_goals (try go_quiet (fail))
    all_goals (try go_wp2)
    all_goals (go_ret;first | exact ⟨⟨_,rfl⟩,hK⟩ | exact ⟨.inl rfl,hK⟩ | exact ⟨.inr rfl,hK⟩)
section
open Go.RowKit Go.ChangeShapes Go.WideShapes Go.ChangeAt Go.Joins Go.Deep
theorem AX:ownKnob Tryz.prog.godebug=none:=by kernel_rfl
theorem pC:laidOutB Tryz.prog=true:=by kernel_rfl
theorem vI:Tryz.prog.cellsOf 41=3:=by kernel_rfl
theorem lf:Tryz.prog.cellsOf 106=3:=by kernel_rfl
theorem mF:Tryz.prog.cellsOf 3=1:=by kernel_rfl
theorem qZ:Tryz.prog.cellsOf 22=1:=by kernel_rfl
theorem qX:Tryz.prog.bytesOf 106=40:=by kernel_rfl
theorem tD:Tryz.prog.bytesOf 3=8:=by kernel_rfl
theorem dP {H:Type} {P:Program} {e:TypeId}:∀ {l:List (DataW H)} {d:DataW H},d∈l->∀ n∈d.weights P e,n∈DataW.weightsAll P e l
 | d' :: r,d,hd,n,hn=>by
  simp only [DataW.weightsAll,List.mem_append];rcases List.mem_cons.1 hd with rfl | h
  ·exact .inl hn
  ·exact .inr (dP h n hn)
theorem kL (b o j:Nat):(⟨b,o,none⟩:Addr).add j=⟨b,o+j,none⟩:=by unfold Addr.add;split <;> simp_all
section
variable {H:Type} {enc:TypeId × Value->H} {W:World} {base:Nat}
theorem ud {fuel:Nat} {cs:List Value} {x:DataW H × List MemPlace} (hb:∀ n∈x.1.weights Tryz.prog 22,n<=reachBytes)
  (h:DataW.trod enc Tryz.prog W base (fun _=>true) true fuel 22 cs=some x):∃ u xs,cs=[u]/\aq W u xs/\∀ z∈xs,-9223372036854775808<=z/\z<=9223372036854775807:=by
 rcases open_ints Tryz.underlying22 Tryz.underlying3 mF h with ⟨rfl,rfl⟩ | ⟨a,len,cap,zs,rfl,_,hl,hm,hz,rfl,hcell,hwz⟩
 ·exact ⟨_,[],rfl,aq.nil _,by simp⟩
 ·simp only [if_true] at hz
  have hbb:=hb ((zs.take len).length*8+(zs.drop len).length*8) (by
   simp only [DataW.weights,Tryz.underlying22,tD,List.mem_cons];exact .inl (by simp [lits];omega))
  simp [reachBytes] at hbb;refine ⟨_,zs.take len,rfl,⟨some a,cap,by simp;omega,⟨by simp;omega,fun h=>by cases h⟩,by simp;omega,fun i hi=>?_⟩,fun z hz=>bounds_i64 (hwz z (List.mem_of_mem_take hz))⟩;simp only [List.length_take] at hi;have hc:=hcell i (by omega);obtain ⟨b,o,spot⟩:=a;have hspot:spot=none:=World.cell?_spot (hcell 0 (by omega));subst hspot;refine ⟨b,o,rfl,?_⟩;have e:(zs.take len)[i]'(by simp;omega)=zs.getD i 0:=by simp [List.getD_eq_getElem?_getD,show i<zs.length by omega]
  rw [e,<-hc];congr 1;by_cases h0:i=0
  ·subst h0;rfl
  ·simp [Addr.add,h0]
instance:Inhabited Nd:=⟨⟨0,0,[]⟩⟩
def zB (x:Nd):Prop:=(-9223372036854775808<=x.kind/\x.kind<=9223372036854775807)/\(-9223372036854775808<=x.k/\x.k<=9223372036854775807)/\∀ z∈x.args,-9223372036854775808<=z/\z<=9223372036854775807
def zy (f:Fm):Prop:=(-9223372036854775808<=f.vars/\f.vars<=9223372036854775807)/\(-9223372036854775808<=f.top/\f.top<=9223372036854775807)/\∀ x∈f.nodes,zB x
theorem rP {fuel:Nat} {cs:List Value} {x:DataW H × List MemPlace} (hb:∀ n∈x.1.weights Tryz.prog 39,n<=reachBytes)
  (h:DataW.trod enc Tryz.prog W base (fun _=>true) true fuel 39 cs=some x):∃ u xs,cs=[u]/\aQ W u xs/\∀ y∈xs,zB y:=by
 rcases open_slice Tryz.underlying39 h with ⟨rfl,rfl⟩ | ⟨a,len,cap,m,n,D,Pl,rfl,_,hl,hm,hmm,rfl,hx⟩
 ·exact ⟨_,[],rfl,⟨none,0,rfl,⟨by simp,fun _=>rfl⟩,by simp,fun i h=>by simp at h⟩,by simp⟩
 ·simp only [if_true] at hmm;have hmc:=hmm.symm;subst hmc
  have hbb:=hb (cap*40) (by
   simp only [DataW.weights,Tryz.underlying39,qX,List.mem_cons];refine .inl ?_;simp;omega)
  simp [reachBytes] at hbb
  have each:∀ i,i<len->∃ y:Nd,zB y/\∃ b o,a=⟨b,o,none⟩/\kV W b (o+i*3) y:=by
   intro i hi;obtain ⟨cs',hc,ht⟩:=hx i (by omega);rw [lf] at hc;obtain ⟨_,hcl,hat⟩:=World.cells?_some hc;obtain ⟨y0,y1,y2,n',hy,hlen,g0,g1,g2⟩:=trod_struct3 Tryz.underlying106 ht
   match cs',hcl with
   | [c0,c1,c2],_ =>
    have q0:=hat 0 (by omega);have q1:=hat 1 (by omega);have q2:=hat 2 (by omega);simp only [List.getElem?_cons_zero,List.getElem?_cons_succ] at q0 q1 q2;have k0:Tryz.prog.cellsOf 3=1:=mF;have k2:Tryz.prog.cellsOf 22=1:=qZ;simp only [k0,k2,List.drop_zero,List.drop_succ_cons,List.take_succ_cons,List.take_zero] at g0 g1 g2;obtain ⟨kd,e0,hy0,w0⟩:=DataW.trod_int Tryz.underlying3 g0;obtain ⟨kk,e1,hy1,w1⟩:=DataW.trod_int Tryz.underlying3 g1;simp at e0 e1;subst e0 e1;have hdi:D i=.agg [y0.1,y1.1,y2.1]:=by simpa using congrArg Prod.fst hy
    obtain ⟨u,xs,e2,hu,hwu⟩:=ud (fun n hn=>hb n (by
     simp only [DataW.weights,Tryz.underlying39,List.mem_cons,List.mem_append];refine .inr (.inl (dP (d:=D i) (List.mem_map.2 ⟨i,by simpa using hi,rfl⟩) n ?_));rw [hdi];simp only [DataW.weights,Tryz.underlying106];simp only [List.map_cons,DataW.weightsEach,List.mem_append];exact .inr (.inr (.inl hn)))) g2
    simp at e2;subst e2;obtain ⟨b,o,spot⟩:=a
    have hspot:spot=none:=by
     obtain ⟨cs0,hc0,_⟩:=hx 0 (by omega);rw [lf] at hc0;obtain ⟨_,hcl0,hat0⟩:=World.cells?_some hc0;have h1:=hat0 0 (by omega);rw [List.getElem?_eq_getElem (by omega)] at h1;exact World.cell?_spot (a:=⟨b,o,spot⟩) (by simpa [Addr.add] using h1)
    subst hspot;refine ⟨⟨kd,kk,xs⟩,⟨bounds_i64 w0,bounds_i64 w1,hwu⟩,b,o,rfl,c2,?_,?_,?_,hu⟩
    ·rw [<-q0,kL,kL];rfl
    ·rw [<-q1,kL,kL]
    ·rw [<-q2,kL,kL]
  obtain ⟨g,hg⟩:=choose_lt each;refine ⟨_,(List.range len).map g,rfl,⟨some a,cap,by simp,⟨by simp;omega,fun h=>by cases h⟩,by simp;omega,fun i hi=>?_⟩,fun y hy=>?_⟩
  ·simp only [List.length_map,List.length_range] at hi;obtain ⟨_,b,o,rfl,h1⟩:=hg i hi;exact ⟨b,o,rfl,by simpa using h1⟩
  ·obtain ⟨i,hi,rfl⟩:=List.mem_map.1 hy;exact (hg i (by simpa using hi)).1
theorem yB {v:Value} {d:DataW H} {p:List MemPlace} (hv:Value.okWide Tryz.prog W .any base 41 v) (hb:∀ n∈d.weights Tryz.prog 41,n<=reachBytes)
  (h:DataW.Trod enc Tryz.prog W 0 (fun _=>true) true 41 v d p):∃ u f,v=jE u f/\aQ W u f.nodes/\zy f:=by
 obtain ⟨v0,v1,v2,y0,y1,y2,n,rfl,hd,_,t0,t1,t2⟩:=open_agg3 Tryz.underlying41 (by kernel_rfl) vI hv h;obtain ⟨vars,e0,_,w0⟩:=DataW.trod_int Tryz.underlying3 t0;obtain ⟨top,e2,_,w2⟩:=DataW.trod_int Tryz.underlying3 t2;simp at e0 e2;subst e0 e2
 obtain ⟨u,xs,e1,hu,hwu⟩:=rP (fun n hn=>hb n (by
  rw [hd];simp only [DataW.weights,Tryz.underlying41];simp only [List.map_cons,DataW.weightsEach,List.mem_append];exact .inr (.inl hn))) t1
 simp at e1;subst e1;exact ⟨v1,⟨vars,xs,top⟩,rfl,hu,bounds_i64 w0,bounds_i64 w2,hwu⟩
end
end
theorem ni {w:World} {v:Value} {nodes:List Nd} (h:aQ w v nodes) (i:Nat) (hi:i<nodes.length) :
  ∃ b o n c ua un uc,v=.slice (some ⟨b,o,none⟩) n c/\n=nodes.length/\∀ W,af w W->W.rangeAt b (o+i*3) [.int .i64 nodes[i].kind,.int .i64 nodes[i].k,.slice ua un uc]/\aq W (.slice ua un uc) nodes[i].args:=by
 obtain ⟨a,c,h1,_,_,h4⟩:=h;obtain ⟨b,o,h5,u,e0,e1,e2,e3⟩:=h4 i hi;obtain ⟨ua,un,uc,rfl⟩:=e3.shape;exact ⟨b,o,_,c,ua,un,uc,by rw [h1,h5],rfl,fun W hk=>⟨dW (hk.cell e0) (hk.cell e1) (hk.cell e2),e3.kept hk⟩⟩
def vt (w':World) (e:Ending) (r:Option (List Nat × List Nat)):Prop :=
 match r with
 | some p=>∃ v1 v2 L,e=.returned (.tuple #[v1,v2,.nilIface])/\aM w' 0 v1 L/\L.Perm p.1/\OwnInts w' 0 v2 (aO p.2)
 | none=>e=.returned (.tuple #[.slice none 0 0,.slice none 0 0,bI 4])
theorem uV (v:Value) (V:Nat) (T:Int) (w:World) (hs:∃ a n c,v=.slice a n c) (hsy:∀ W,af w W->Calls Tryz.prog 124 #[.agg #[.int .i64 V,v,.int .i64 T]] W fun e w'=>e=.returned (.tuple #[.bool false,.nilIface])/\af W w') :
  Calls Tryz.prog 77 #[.agg #[.int .i64 V,v,.int .i64 T]] w fun e w'=>e=.returned (.tuple #[.slice none 0 0,.slice none 0 0,bI 7])/\af w w':=by
 obtain ⟨a,n,c,rfl⟩:=hs;have H:=ae hsy;clear hsy;rw [bJ (show (7:Nat)≠0 by decide)];go_enter Tryz.func77,Tryz.ntmps77;go_wp2_with (go_at_call 124;refine (H.out _ ((af.refl _).alloc _)).mono ?_;rintro e w1 ⟨rfl,hk1⟩);go_ret3;exact ⟨rfl,((af.refl _).alloc _).trans hk1⟩
theorem aM.zero {w:World} {B:Nat} {v:Value} {L:List Nat} (h:aM w B v L):aM w 0 v L:=h.mono (Nat.zero_le _)
theorem aM.grown {w w':World} {B:Nat} {ob:Option Nat} {v:Value} {L:List Nat} (h:aM w B v L) (hg:w.grownBy w' ob) (hne:∀ g,v.ownBlock=some g->some g≠ob):aM w' B v L:=by
 obtain ⟨⟨h1,h2⟩,h3⟩:=h;refine ⟨⟨h1,h2.imp id ?_⟩,h3⟩;rintro ⟨b,cap,cur,rfl,h5,h6,h7⟩;refine ⟨b,cap,cur,rfl,h5,?_,h7⟩
 have hlt:b<w.heap.size:=by
  by_cases h:b<w.heap.size
  ·exact h
  ·rw [Array.getElem?_eq_none (Nat.le_of_not_lt h)] at h6;cases h6
 exact (hg.block b hlt (hne b (by simp [Value.ownBlock]))).trans h6
theorem OwnInts.own_lt {w:World} {B:Nat} {v:Value} {xs:List Int} (h:OwnInts w B v xs) {g:Nat} (hg:v.ownBlock=some g):g<w.heap.size:=(h.1.lt g hg).2
theorem yP (w:World) (B c:Nat) (hB:B<=w.heap.size) (hc:aB 152 c):aM (w.alloc (.cells #[.int .i64 (aZ c),.int .u64 (cr c),.int .u64 (b_ c)] 99)) B (.slice (some ⟨w.heap.size,0,none⟩) 1 1) [c] :=
 ⟨⟨by simp [aU],.inr ⟨w.heap.size,1,_,rfl,hB,heap_alloc_new w _,Nat.le_refl _,by unfold maxLen;omega,by simp,by simp [aU]⟩⟩,by simp,by simpa using hc⟩
theorem dj.len {w:World} {v:Value} {L:List Nat} (h:dj w v L):L.length<=10000:=by obtain ⟨_,_,_,_,h,_⟩:=h;exact h
theorem dj.lt {w:World} {v:Value} {L:List Nat} (h:dj w v L):∀ c∈L,aB 152 c:=by obtain ⟨_,_,_,_,_,h,_⟩:=h;exact h
theorem dj.get {w:World} {a:Option Addr} {n c:Nat} {L:List Nat} (h:dj w (.slice a n c) L) (i:Nat) (hi:i<L.length):∃ b o,a=some ⟨b,o,none⟩/\w.rangeAt b (o+i*3) (aU L[i]):=by
 obtain ⟨a',c',h1,_,_,_,h5⟩:=h;injection h1 with h1 h2 h3
 subst h1;exact h5 i hi
theorem kF (w:World):vt w (.returned (.tuple #[.slice none 0 0,.slice none 0 0,bI 4])) none:=rfl
theorem wg {gl:Nat} {v v':Value} {w0 w w':World} (hk:af w0 w) (h:dE gl v v' w w') (h1:w0.heap.size<=gl) (h2:v.ownBlock=none):af w0 w':=by
 refine ⟨h.os.trans hk.os,h.tape.trans hk.tape,h.output.trans hk.output,Nat.le_trans hk.size h.size,fun k hk'=>?_⟩;have:=hk.size;refine (h.block k (by omega) (by omega) (by rw [h2];simp)).trans (hk.block k hk')
theorem xJ (v:Value) (f:Fm) (V T:Nat) (w:World) (hv:aQ w v f.nodes) (hok:Ok f V T) (hck:du f=0) (hs:gG V T f=true) :
  Calls Tryz.prog 77 #[.agg #[.int .i64 V,v,.int .i64 T]] w fun e w'=>vt w' e (kj V T f.nodes)/\af w w':=by
 have HSY:Hid (∀ W,af w W->Calls Tryz.prog 124 #[.agg #[.int .i64 V,v,.int .i64 T]] W fun e w'=>e=.returned (.tuple #[.bool true,.nilIface])/\af W w'):=ae fun W hk=>by
  have:=nG v f V T W (hv.kept hk) hok hck;rw [hs] at this;exact this
 have HNR:=ae (fun i (hi:i<f.nodes.length)=>ni hv i hi);have HOK:=ae hok;have HMO:=ae (fun i (hi:i<f.nodes.length) h=>jL hok hs i hi h);have hsh:∃ a n c,v=.slice a n c:=by obtain ⟨a,c,h,_⟩:=hv;exact ⟨a,_,c,h⟩
 obtain ⟨a,n,c,rfl⟩:=hsh;have h24:=hok.v24;have h128:=hok.n128;have htl:=hok.tlt;have hc0:aB 152 (cond V (T:Int)):=d_ (cG (V:=V) (m:=128) (by omega) h24) (by omega);have HST0:=ae (ep.start hok)
 have HW0:Hid (∀ W',Calls Tryz.prog 125 #[.agg #[.int .i64 0,.int .u64 0,.int .u64 0],.agg #[.int .i64 V,.slice a n c,.int .i64 T],.int .i64 T] W' fun e w'=>e=.returned (cP (cond V (T:Int)))/\af W' w'):=ae fun W'=>by
  have:=gR (c:=0) (fun j hj=>by simp at hj) V (.slice a n c) T ⟨_,_,_,rfl⟩ h24 (T:Int) (by omega) W';rw [show aJ V 0 (T:Int)=cond V (T:Int) by unfold aJ;simp] at this;exact this
 obtain ⟨c0,hc00⟩:∃ c0,c0=cond V (T:Int):=⟨_,rfl⟩;obtain ⟨nl,hnl⟩:∃ nl,nl=f.nodes.length:=⟨_,rfl⟩;rw [<-hc00] at hc0 HST0 HW0;rw [<-hnl] at HST0 h128;have HNL:=ae hnl;have HC0:=ae hc0;obtain ⟨x0,hx0⟩:∃ x,x=aZ c0:=⟨_,rfl⟩;obtain ⟨x1,hx1⟩:∃ x,x=cr c0:=⟨_,rfl⟩;obtain ⟨x2,hx2⟩:∃ x,x=b_ c0:=⟨_,rfl⟩;have HOW:Hid (∀ (W:World) (B:Nat),B<=W.heap.size->aM (W.alloc (.cells #[.int .i64 x0,.int .u64 x1,.int .u64 x2] 99)) B (.slice (some ⟨W.heap.size,0,none⟩) 1 1) [c0]):=ae fun W B hB=>by rw [hx0,hx1,hx2];exact yP W B c0 hB hc0
 unfold cP at HW0;rw [<-hx0,<-hx1,<-hx2] at HW0;clear hv hok hck hs hc0 hc00 hnl hx0 hx1 hx2 htl;go_enter Tryz.func77,Tryz.ntmps77;go_wp2_with (go_at_call 124;refine (HSY.out _ ((af.refl _).alloc _)).mono ?_;rintro e w1 ⟨rfl,hk1⟩;have d0:=hk1.cell (p:=⟨w.heap.size,0,none⟩) (v:=.int .i64 V) (by simp);have d1:=hk1.cell (p:=⟨w.heap.size,1,none⟩) (v:=.slice a n c) (by simp);have d2:=hk1.cell (p:=⟨w.heap.size,2,none⟩) (v:=.int .i64 T) (by simp);have HK1:=ae (((af.refl _).alloc _).trans hk1);clear hk1);refine (HW0.out _).mono ?_;rintro e w2 ⟨rfl,hk2⟩;have d0':=hk2.cell d0;have d1':=hk2.cell d1;have d2':=hk2.cell d2;have HK2:=ae (HK1.out.trans hk2)
 have hsz2:w.heap.size<w2.heap.size:=by
  by_cases h:w.heap.size<w2.heap.size
  ·exact h
  ·simp [World.cell?,Array.getElem?_eq_none (Nat.le_of_not_lt h)] at d0'
 clear d0 d1 d2 hk2 HK1;go_wp2;obtain ⟨L1,hL1⟩:∃ L:World,L=w2.alloc (.cells #[.int .i64 x0,.int .u64 x1,.int .u64 x2] 99):=⟨_,rfl⟩;have HL1:=ae hL1;clear hL1;have e0:=(by rw [HL1.out];exact ((af.refl w2).alloc _).cell d0':L1.cell? ⟨w.heap.size,0,none⟩=some (.int .i64 V));have e1:=(by rw [HL1.out];exact ((af.refl w2).alloc _).cell d1':L1.cell? ⟨w.heap.size,1,none⟩=some (.slice a n c));have e2:=(by rw [HL1.out];exact ((af.refl w2).alloc _).cell d2':L1.cell? ⟨w.heap.size,2,none⟩=some (.int .i64 T));have HKL:Hid (af w L1):=ae (by rw [HL1.out];exact HK2.out.trans ((af.refl w2).alloc _));clear d0' d1' d2';go_loopg [7,8] nl (fun kx s7 s8 wr=>∃ (L st:List Nat) (m:Nat) (vr vs:Value),s7=vr/\s8=vs/\m<=kx/\Hid (ep V T f L st m/\st.length+m<=128)/\Hid (aM wr w2.heap.size vr L)/\Hid (OwnInts wr L1.heap.size vs (aO st))/\Hid (af L1 wr))
 case atStart=>exact ⟨[c0],[],nl,_,_,rfl,rfl,Nat.le_refl _,ae ⟨HST0.out,by simpa using h128⟩,ae (HOW.out _ _ (Nat.le_refl _)),ae (OwnInts.nil _ _),ae (by rw [HL1.out];exact af.refl _)⟩
 case round =>
  obtain ⟨wo,rfl⟩:∃ wo:World,wo=wr:=⟨_,rfl⟩;obtain ⟨L,st,m,vr,vs,rfl,rfl,hmk,HST,HOR,HOS,HK⟩:=hrel;obtain ⟨va,vc,hvr⟩:=HOR.out.at.shape;obtain ⟨ln,hln⟩:∃ ln,ln=L.length:=⟨_,rfl⟩;rw [<-hln] at hvr;have hlb:ln<=10000:=by rw [hln];exact HOR.out.at.len
  subst hvr;have HLN:=ae hln;have HG:=ae (nZ _ L wo HOR.out.at);have d0:=HK.out.cell e0;have d1:=HK.out.cell e1;have d2:=HK.out.cell e2;clear hln;go_wp2_with fail;refine HG.out.mono ?_;rintro e w3 ⟨⟨r,rfl,hg⟩,hk3⟩;have HGT:=ae hg;have HK3:=ae hk3;by_cases hr0:r<0
  ·clear hg hk3 d0 d1 d2;go_wp2;go_ret3;refine ⟨?_,HKL.out.trans (HK.out.trans HK3.out)⟩;obtain ⟨R,hR,hp⟩:=HST.out.1.done fun c hc j hj=>by have:=HGT.out.1 c hc j hj;omega
   rw [hR];exact ⟨_,_,L,rfl,(HOR.out.kept HK3.out).zero,hp,(HOS.out.mono (Nat.zero_le _)).kept HK3.out⟩
  ·obtain ⟨i,rfl,hib⟩:=hg.2.resolve_left (by omega);obtain ⟨him,hmk2,_⟩:=HST.out.1.at hib fun c hc j hj=>by have:=hg.1 c hc j hj;omega
   have hle:=HST.out.1.le;have hil:i<f.nodes.length:=by omega
   obtain ⟨b,o,n',c',ua,un,uc,hveq,hn',hnr⟩:=HNR.out i hil;injection hveq with q1 q2 q3
   subst q1;rw [<-q2,<-HNL.out] at hn';have hkd:=HMO.out i hil hmk2;have hok:=HOK.out;have h128':=hok.n128;have hargs:∀ a∈f.nodes[i].args,0<=a/\a<(V:Int)+128:=fun a ha=>by have:=hok.args i hil a ha;omega
   have h16:f.nodes[i].args.length<=16:=jF (hok.argc i hil)
   have hk4:f.nodes[i].kind=4->1<=f.nodes[i].k/\f.nodes[i].k<=f.nodes[i].args.length:=fun h4=>by
    have:=hok.arity i hil;unfold gi at this;rw [if_neg (by omega),if_pos h4] at this;split at this
    ·omega
    ·cases this
   have hx:f.nodes.getD i bZ=f.nodes[i]:=by simp [List.getD_eq_getElem?_getD,hil]
   obtain ⟨x,hxx⟩:∃ x,x=f.nodes[i]:=⟨_,rfl⟩;rw [<-hxx] at hnr hkd hargs h16 hk4 hx;have HX:=ae hx;have hin:i<n:=by rw [hn',HNL.out];exact hil
   have hi128:i<128:=by omega
   have HEX:Hid (∀ W q u LL gl,af w W->w.heap.size<=gl->gl<=W.heap.size->ListAt W gl gl u LL->LL.length<=4097->aB 152 q->Calls Tryz.prog 128 #[.pointer (some ⟨gl,0,none⟩),.agg #[.int .i64 V,.slice (some ⟨b,o,none⟩) n c,.int .i64 T],.agg #[.int .i64 (aZ q),.int .u64 (cr q),.int .u64 (b_ q)],.int .i64 i] W fun e w'=>e=.returned (.tuple #[])/\∃ v',ListAt w' gl gl v' ((LL++bV V x i q).take 4097)/\dE gl u v' W w'):=ae fun W q u LL gl hk hg1 hg2 hL hl hq =>
    rv gl gl V i q b o n c T x ua un uc u LL W (Nat.le_refl _) h24 hg2 hL hl hq hi128 hin (hnr W hk).1 (fun w' hb=>(hnr w' (hk.app (hb.mono hg1))).2) hargs h16 hkd hk4
   clear hnr hkd hargs h16 hk4 hx hxx hok hmk2 q2 q3 hn' hg hib hil;have hsz3:=hk3.size;have d0':=hk3.cell d0;have d1':=hk3.cell d1;have d2':=hk3.cell d2;clear hk3 d0 d1 d2;go_wp2;obtain ⟨L3,hL3⟩:∃ L:World,L=w3.alloc (.cells #[.slice none 0 0] 144):=⟨_,rfl⟩;have HL3:=ae hL3;have HK33:Hid (af w3 L3):=ae (by rw [HL3.out];exact (af.refl _).alloc _);clear hL3;go_loopg [38] ln (fun kx s38 wr=>∃ (k:Nat) (vk:Value),s38=.int .i64 k/\k<=ln/\ln - k<=kx/\Hid (ListAt wr w3.heap.size w3.heap.size vk ((bp V x i (L.take k)).take 4097))/\Hid (dE w3.heap.size (.slice none 0 0) vk L3 wr))
   case atStart=>exact ⟨0,_,rfl,Nat.zero_le _,by omega,ae ⟨ai.made w3 _ _,by simpa [bp] using aM.nil _ _⟩,ae (by rw [HL3.out];exact dE.of_kept (af.refl _))⟩
   case round =>
    obtain ⟨k,vk,rfl,hk,hkx,HLI,HFI⟩:=hrel;have hkwi:af w3 wr:=wg HK33.out HFI.out (Nat.le_refl _) rfl;have HKI:=ae hkwi;have hszi:=hkwi.size;by_cases hlt:k<ln
    ·have hkl:k<L.length:=by have:=HLN.out;omega
     have hrows:=HOR.out.at.kept (HK3.out.trans hkwi);obtain ⟨b2,o2,rfl,hrg⟩:=hrows.get k hkl;have hql:=hrows.lt L[k] (List.getElem_mem _);have hnext:=jI V x i L k hkl;obtain ⟨q,hqq⟩:∃ q,q=L[k]:=⟨_,rfl⟩;rw [<-hqq] at hrg hql hnext;unfold nY at hnext;have f0:=hkwi.cell d0';have f1:=hkwi.cell d1';have f2:=hkwi.cell d2';have hlen:((bp V x i (L.take k)).take 4097).length<=4097:=by rw [List.length_take];omega
     have HKWI:Hid (∀ W,af wr W->af w W):=ae fun W hk=>HKL.out.trans (HK.out.trans (HK3.out.trans (hkwi.trans hk)))
     have HHAS:Hid (∀ W,Calls Tryz.prog 127 #[cP q,.int .i64 i] W fun e w'=>e=.returned (.bool (q.testBit (24+i)))/\af W w'):=ae fun W=>xC hql i hi128 W
     unfold cP at HHAS;have hkn:(k:Int)<(ln:Int):=by omega
     cases hq:q.testBit (24+i) with
     | true =>
      rw [hq] at hnext HHAS;rw [if_pos rfl] at hnext
      have HE2:Hid (∀ W,af wr W->Calls Tryz.prog 128 #[.pointer (some ⟨w3.heap.size,0,none⟩),.agg #[.int .i64 V,.slice (some ⟨b,o,none⟩) n c,.int .i64 T],.agg #[.int .i64 (aZ q),.int .u64 (cr q),.int .u64 (b_ q)],.int .i64 i] W fun e w'=>e=.returned (.tuple #[])/\∃ v',Hid (ListAt w' w3.heap.size w3.heap.size v' ((bp V x i (L.take (k+1))).take 4097))/\Hid (dE w3.heap.size (.slice none 0 0) v' L3 w')):=ae fun W hk=>by
       have:=HEX.out W q vk _ w3.heap.size (HKWI.out W hk) (by have:=HKL.out.size;have:=HK.out.size;omega) (by have:=hk.size;omega) (ListAt.kept HLI.out hk) hlen hql;rw [jA,<-hnext] at this;exact this.mono fun _ _ ⟨h1,v',h2,h3⟩=>⟨h1,v',ae h2,ae ((HFI.out.trans (dE.of_kept hk)).trans h3)⟩
      have HRG:Hid (wr.rangeAt b2 (o2+k*3) [.int .i64 (aZ q),.int .u64 (cr q),.int .u64 (b_ q)]):=ae hrg;generalize aZ q=z0 at *;generalize cr q=z1 at *;generalize b_ q=z2 at *;clear hrg hql hnext hqq hrows hq HEX d0' d1' d2' HLI HFI hkwi hlen;go_wp2_with (first | (with_reducible refine wpList_load_mid rfl 99 _ rfl b2 (o2+k*3) rfl _ _ HRG.out Tryz.underlying99 rfl (by kernel_rfl) ?_) | (go_at_call 127;refine (HHAS.out _).mono ?_;rintro e w4 ⟨rfl,hk4⟩;have b0:=hk4.cell (p:=⟨wr.heap.size,0,none⟩) (v:=.int .i64 z0) (by simp);have b1:=hk4.cell (p:=⟨wr.heap.size,1,none⟩) (v:=.int .u64 z1) (by simp);have b2:=hk4.cell (p:=⟨wr.heap.size,2,none⟩) (v:=.int .u64 z2) (by simp);have HK4:=ae (((af.refl wr).alloc _).trans hk4);have g0:=HK4.out.cell f0;have g1:=HK4.out.cell f1;have g2:=HK4.out.cell f2;clear hk4) | (go_at_call 128;refine (HE2.out _ HK4.out).mono ?_;rintro e w5 ⟨rfl,v',h3,h4⟩));go_roundg (ln - (k+1))
      case measure=>omega
      case rel=>exact ⟨k+1,v',by go_num,by omega,Nat.le_refl _,h3,h4⟩
     | false =>
      rw [hq] at hnext HHAS;rw [if_neg (by simp)] at hnext
      have HE2:Hid (∀ W,af wr W->Calls Tryz.prog 129 #[.pointer (some ⟨w3.heap.size,0,none⟩),.agg #[.int .i64 (aZ q),.int .u64 (cr q),.int .u64 (b_ q)]] W fun e w'=>e=.returned (.tuple #[])/\∃ v',Hid (ListAt w' w3.heap.size w3.heap.size v' ((bp V x i (L.take (k+1))).take 4097))/\Hid (dE w3.heap.size (.slice none 0 0) v' L3 w')):=ae fun W hk=>by
       have:=iW w3.heap.size w3.heap.size q vk _ W (ListAt.kept HLI.out hk) hql hlen (Nat.le_refl _);rw [gI hlen,jA,<-hnext] at this;exact this.mono fun _ _ ⟨h1,v',h2,h3⟩=>⟨h1,v',ae h2,ae ((HFI.out.trans (dE.of_kept hk)).trans h3)⟩
      have HRG:Hid (wr.rangeAt b2 (o2+k*3) [.int .i64 (aZ q),.int .u64 (cr q),.int .u64 (b_ q)]):=ae hrg;generalize aZ q=z0 at *;generalize cr q=z1 at *;generalize b_ q=z2 at *;clear hrg hql hnext hqq hrows hq HEX d0' d1' d2' HLI HFI hkwi hlen;go_wp2_with (first | (with_reducible refine wpList_load_mid rfl 99 _ rfl b2 (o2+k*3) rfl _ _ HRG.out Tryz.underlying99 rfl (by kernel_rfl) ?_) | (go_at_call 127;refine (HHAS.out _).mono ?_;rintro e w4 ⟨rfl,hk4⟩;have b0:=hk4.cell (p:=⟨wr.heap.size,0,none⟩) (v:=.int .i64 z0) (by simp);have b1:=hk4.cell (p:=⟨wr.heap.size,1,none⟩) (v:=.int .u64 z1) (by simp);have b2:=hk4.cell (p:=⟨wr.heap.size,2,none⟩) (v:=.int .u64 z2) (by simp);have HK4:=ae (((af.refl wr).alloc _).trans hk4);clear hk4) | (go_at_call 129;refine (HE2.out _ HK4.out).mono ?_;rintro e w5 ⟨rfl,v',h3,h4⟩));go_roundg (ln - (k+1))
      case measure=>omega
      case rel=>exact ⟨k+1,v',by go_num,by omega,Nat.le_refl _,h3,h4⟩
    ·have hke:k=ln:=by omega
     have HLE:Hid (ListAt wr w3.heap.size w3.heap.size vk ((bp V x i L).take 4097)):=ae (by have h:=HLI.out;rw [hke,HLN.out,List.take_length] at h;exact h);have c0:=HLE.out.1.cell (i:=0) (by simp);simp only [List.getElem_cons_zero] at c0;obtain ⟨vka,vkc,hvk⟩:=HLE.out.2.at.shape;obtain ⟨n2,hn2⟩:∃ n2,n2=((bp V x i L).take 4097).length:=⟨_,rfl⟩;rw [<-hn2] at hvk;subst hvk;have HN2:=ae hn2;have hn2b:n2<=4097:=by rw [hn2,List.length_take];omega
     have HHI:Hid ((∃ c∈L,c.testBit (24+i)=true)/\∀ c∈L,∀ j,c.testBit (24+j)=true->j<=i):=ae ⟨by
      rcases HGT.out.2 with h | ⟨j,hj,hc⟩
      ·omega
      ·rw [show i=j by omega];exact hc,fun c hc j hj=>by have:=HGT.out.1 c hc j hj;omega⟩
     clear hke hn2 HLI HEX HFI;by_cases hbig:4096<n2
     ·have hbig':(n2:Int) > 4096:=by omega
      go_wp2;go_ret3;refine ⟨?_,HKL.out.trans (HK.out.trans (HK3.out.trans HKI.out))⟩;rw [HST.out.1.full HHI.out.1 HHI.out.2 (by rw [HX.out];have:=HN2.out;rw [List.length_take] at this;omega)];exact kF _
     ·have hbig':¬ (n2:Int) > 4096:=by omega
      have hfull:(bp V x i L).length<=4096:=by have:=HN2.out;rw [List.length_take] at this;omega
      have HLS:=ae (lA _ _ wr HLE.out.2.at (by rw [List.length_take];omega));rw [List.take_of_length_le (by omega)] at HLS;have HFU:=ae hfull;clear hfull HLE;go_wp2_with fail;refine HLS.out.mono ?_;rintro e w6 ⟨⟨v6,M,rfl,ho6,hp6⟩,hk6⟩;have HO6:=ae ho6;have HP6:=ae hp6;have HK6:=ae hk6;obtain ⟨va6,vc6,hv6⟩:=ho6.at.shape;obtain ⟨n6,hn6⟩:∃ n6,n6=M.length:=⟨_,rfl⟩;rw [<-hn6] at hv6;have hn6b:n6<=10000:=by rw [hn6];exact ho6.at.len
      subst hv6;have HN6:=ae hn6;have HKA:Hid (af wo w6):=ae (HK3.out.trans (HKI.out.trans hk6));have HKB:Hid (af L1 w6):=ae (HK.out.trans HKA.out);have hsz6:=hk6.size;clear hn6 ho6 hp6 hk6 HLS;by_cases hbig6:1024<n6
      ·have hbig6':(n6:Int) > 1024:=by omega
       go_wp2;go_ret3;refine ⟨?_,HKL.out.trans HKB.out⟩;rw [HST.out.1.many (M:=M) HHI.out.1 HHI.out.2 (by rw [HX.out];exact HP6.out) (by rw [<-HN6.out];exact hbig6)];exact kF _
      ·have hbig6':¬ (n6:Int) > 1024:=by omega
       have HS2:=ae (HST.out.1.next (M:=M) HOK.out HHI.out.1 HHI.out.2 (by rw [HX.out];exact HFU.out) (by rw [HX.out];exact HP6.out) (by rw [<-HN6.out];omega));have HOS6:=ae (HOS.out.kept HKA.out);have hst:=HST.out.2;have hstl:(aO st).length=st.length:=by simp [aO]
       have hszL:=HKB.out.size;have HOWN:Hid (∀ g,u8.ownBlock=some g->g<wr.heap.size):=ae fun g hg=>by have:=HOS.out.own_lt hg;have:=(HK3.out.trans HKI.out).size;omega
       go_wp2_with (at_builtin;refine dp rfl _ _ rfl L1.heap.size _ (aO st) rfl (HOS6.out.kept ((af.refl _).alloc _)) _ (n6:Int) rfl (by simp) (by rw [hstl];omega) (by simp;omega) ?_;intro v7 w7 hown7 hg7 hb7;have O7:=ae hown7;have HB7:=ae hb7;have HG7:=ae hg7;clear hown7 hb7 hg7);go_roundg i
       case measure=>omega
       case rel =>
        refine ⟨M,st++[n6],i,_,v7,rfl,rfl,Nat.le_refl _,ae ⟨by have:=HS2.out;rw [<-HN6.out] at this;exact this,by simp;omega⟩,ae ?_,ae ?_,ae ?_⟩
        ·refine ((HO6.out.kept ((af.refl _).alloc _)).grown HG7.out fun g hg e=>?_).mono (by have h1:=HK.out.size;have h2:=HKI.out.size;have h3:=HK3.out.size;have h4:L1.heap.size=w2.heap.size+1:=(by rw [HL1.out];simp);omega);have h1:=(HO6.out.own_ge hg).1;have h2:=HOWN.out g e.symm;omega
        ·have:=O7.out;simpa [aO] using this
        ·exact (HKB.out.alloc _).app HB7.out
theorem vA (n:Nat):0<n->n &&& (n - 1)<n/\pc n=pc (n &&& (n - 1))+1:=by
 induction n using Nat.strongRecOn with
 | ind n ih =>
  intro h0;have bits:∀ a b:Nat,a=b ↔ a % 2=b % 2/\a / 2=b / 2:=fun a b=>by omega
  by_cases h:n % 2=1
  ·have e:n &&& (n - 1)=n - 1:=by
    rw [bits]
    have e1:(n &&& (n - 1)) % 2=0:=by
     rw [show (2:Nat)=2^1 from rfl,Nat.and_mod_two_pow,show (n - 1) % 2^1=0 by omega];simp
    have e2:(n &&& (n - 1)) / 2=n / 2:=by
     rw [show (2:Nat)=2^1 from rfl,Nat.and_div_two_pow,show (n - 1) / 2^1=n / 2^1 by omega,Nat.and_self]
    omega
   rw [e];refine ⟨by omega,?_⟩;rw [cF n,cF (n - 1),show (n - 1) / 2=n / 2 by omega];omega
  ·have h2:=ih (n / 2) (by omega) (by omega)
   have e1:(n &&& (n - 1)) % 2=0:=by
    rw [show (2:Nat)=2^1 from rfl,Nat.and_mod_two_pow,show n % 2^1=0 by omega];simp
   have e2:(n &&& (n - 1)) / 2=n / 2 &&& (n / 2 - 1):=by
    rw [show (2:Nat)=2^1 from rfl,Nat.and_div_two_pow,show (n - 1) / 2^1=n / 2^1 - 1 by omega]
   refine ⟨by omega,?_⟩;rw [cF n,cF (n &&& (n - 1)),e1,e2];omega
theorem lT {n:Nat} (h:Mk n) (w:World):Calls Tryz.prog 230 #[.int .i64 n] w fun e w'=>e=.returned (.int .i64 n)/\w=w':=by
 have hc:=rn h;go_enter Tryz.func230,Tryz.ntmps230;go_wp2;go_ret;exact ⟨rfl,rfl⟩
theorem md (s:Int) (w:World):Calls Tryz.prog 222 #[.int .i64 s] w fun e w'=>e=.returned (.bool (decide (0<=s/\s<=16777215)))/\w=w':=by
 by_cases h:0<=s
 ·by_cases h2:s<16777216
  all_goals
   go_enter Tryz.func222,Tryz.ntmps222;go_wp2;go_ret;exact ⟨by congr 2;simp;omega,rfl⟩
 ·go_enter Tryz.func222,Tryz.ntmps222;go_wp2;go_ret;exact ⟨by congr 2;simp;omega,rfl⟩
theorem lS {n:Nat} (h:Mk n) (w:World):Calls Tryz.prog 231 #[.int .i64 n] w fun e w'=>e=.returned (.int .i64 (pc n))/\w=w':=by
 obtain ⟨r,hr⟩:∃ r,r=pc n:=⟨_,rfl⟩;rw [<-hr];have HR:=ae hr;have h':=h;clear hr;go_enter Tryz.func231,Tryz.ntmps231;go_wp2_with (go_at_call 230;refine (lT h' _).mono ?_;rintro e w' ⟨rfl,rfl⟩);go_loop [0,3] (fun s k=>∃ m q:Nat,s=.int .i64 m/\k=.int .i64 q/\m<16777216/\q<=16777216 - m/\Hid (pc m+q=r)) (fun s _=>(intOf s).toNat)
 case atStart=>exact ⟨n,0,rfl,rfl,h,by omega,ae (by rw [HR.out];rfl)⟩
 case round =>
  obtain ⟨m,q,rfl,rfl,hm,hq,HI⟩:=hrel;by_cases h0:0<m
  ·have hp:=vA m h0
   have e1:bits .and .i64 (m:Int) ((m:Int) - 1)=((m &&& (m - 1):Nat):Int):=by
    rw [show (m:Int) - 1=((m - 1:Nat):Int) by omega];exact cR _ _ (by omega) (by omega)
   have hne:((m:Int) == 0)=false:=by simp;omega
   have hne2:((m:Int) != 0)=true:=by simp;omega
   have HP:=ae hp;clear hp;go_wp2;go_round
   case rel=>exact ⟨m &&& (m - 1),q+1,rfl,by go_num,by have:=HP.out;omega,by have:=HP.out;omega,ae (by have:=HP.out;have:=HI.out;omega)⟩
   case measure=>have:=HP.out;simp [intOf];omega
  ·obtain rfl:m=0:=by omega
   go_wp2;go_ret;have hqr:q=r:=by have:=HI.out;rw [fX] at this;omega
   exact ⟨by rw [hqr];rfl,rfl⟩
def jH (a b:Nat):Int:=if a=b then 0 else if eB a b then -1 else 1
theorem oy {a b:Nat} (ha:Mk a) (hb:Mk b) (w:World):Calls Tryz.prog 170 #[.int .i64 a,.int .i64 b] w fun e w'=>e=.returned (.int .i64 (jH a b))/\w=w':=by
 obtain ⟨r,hr⟩:∃ r,r=jH a b:=⟨_,rfl⟩;rw [<-hr];obtain ⟨x,hx⟩:∃ x,x=pc a:=⟨_,rfl⟩;obtain ⟨y,hy⟩:∃ x,x=pc b:=⟨_,rfl⟩;have HR:=ae hr;have HA:Hid (∀ W,Calls Tryz.prog 231 #[.int .i64 a] W fun e w'=>e=.returned (.int .i64 x)/\W=w'):=ae (hx ▸ fun W=>lS ha W);have HB:Hid (∀ W,Calls Tryz.prog 231 #[.int .i64 b] W fun e w'=>e=.returned (.int .i64 y)/\W=w'):=ae (hy ▸ fun W=>lS hb W);have CA:Hid (∀ W,Calls Tryz.prog 230 #[.int .i64 a] W fun e w'=>e=.returned (.int .i64 a)/\W=w'):=ae fun W=>lT ha W
 have CB:Hid (∀ W,Calls Tryz.prog 230 #[.int .i64 b] W fun e w'=>e=.returned (.int .i64 b)/\W=w'):=ae fun W=>lT hb W
 have HX:=ae hx;have HY:=ae hy;clear hr hx hy ha hb;by_cases e:a=b
 ·have h0:r=0:=by rw [HR.out,jH,if_pos e]
  subst h0;have ee:((a:Int) == (b:Int))=true:=by simp;omega
  clear HX HY;clear e;go_enter Tryz.func170,Tryz.ntmps170
  go_wp2_with (first
   | (go_at_call_of 230 (Value.int .i64 (a:Int));refine (CA.out _).mono ?_;rintro e w' ⟨rfl,rfl⟩)
   | (go_at_call_of 230 (Value.int .i64 (b:Int));refine (CB.out _).mono ?_;rintro e w' ⟨rfl,rfl⟩))
  go_ret;exact ⟨rfl,rfl⟩
 ·have ee:((a:Int) == (b:Int))=false:=by simp;omega
  have HE:=ae e;clear e;by_cases h1:x<y
  ·have h0:r=-1:=by rw [HR.out,jH,if_neg HE.out,if_pos (.inl (by rw [<-HX.out,<-HY.out];exact h1))]
   subst h0;have h1':(x:Int)<(y:Int):=by omega
   go_enter Tryz.func170,Tryz.ntmps170
   go_wp2_with (first
    | (go_at_call_of 230 (Value.int .i64 (a:Int));refine (CA.out _).mono ?_;rintro e w' ⟨rfl,rfl⟩)
    | (go_at_call_of 230 (Value.int .i64 (b:Int));refine (CB.out _).mono ?_;rintro e w' ⟨rfl,rfl⟩)
    | (go_at_call_of 231 (Value.int .i64 (a:Int));refine (HA.out _).mono ?_;rintro e w' ⟨rfl,rfl⟩)
    | (go_at_call_of 231 (Value.int .i64 (b:Int));refine (HB.out _).mono ?_;rintro e w' ⟨rfl,rfl⟩))
   go_ret;exact ⟨rfl,rfl⟩
  ·have h1':¬ (x:Int)<(y:Int):=by omega
   by_cases h2:x=y
   ·have h2':((x:Int) == (y:Int))=true:=by simp;omega
    by_cases h3:a<b
    ·have h0:r=-1:=by rw [HR.out,jH,if_neg HE.out,if_pos (.inr ⟨by rw [<-HX.out,<-HY.out];exact h2,h3⟩)]
     subst h0;have h3':(a:Int)<(b:Int):=by omega
     clear HX HY h1;clear h2;go_enter Tryz.func170,Tryz.ntmps170
     go_wp2_with (first
      | (go_at_call_of 230 (Value.int .i64 (a:Int));refine (CA.out _).mono ?_;rintro e w' ⟨rfl,rfl⟩)
      | (go_at_call_of 230 (Value.int .i64 (b:Int));refine (CB.out _).mono ?_;rintro e w' ⟨rfl,rfl⟩)
      | (go_at_call_of 231 (Value.int .i64 (a:Int));refine (HA.out _).mono ?_;rintro e w' ⟨rfl,rfl⟩)
      | (go_at_call_of 231 (Value.int .i64 (b:Int));refine (HB.out _).mono ?_;rintro e w' ⟨rfl,rfl⟩))
     go_ret;exact ⟨rfl,rfl⟩
    ·have h0:r=1:=by
      rw [HR.out,jH,if_neg HE.out,if_neg];rintro (h | h)
      ·rw [<-HX.out,<-HY.out] at h;exact h1 h
      ·exact h3 h.2
     subst h0;have h3':¬ (a:Int)<(b:Int):=by omega
     clear HX HY h1;clear h2;go_enter Tryz.func170,Tryz.ntmps170
     go_wp2_with (first
      | (go_at_call_of 230 (Value.int .i64 (a:Int));refine (CA.out _).mono ?_;rintro e w' ⟨rfl,rfl⟩)
      | (go_at_call_of 230 (Value.int .i64 (b:Int));refine (CB.out _).mono ?_;rintro e w' ⟨rfl,rfl⟩)
      | (go_at_call_of 231 (Value.int .i64 (a:Int));refine (HA.out _).mono ?_;rintro e w' ⟨rfl,rfl⟩)
      | (go_at_call_of 231 (Value.int .i64 (b:Int));refine (HB.out _).mono ?_;rintro e w' ⟨rfl,rfl⟩))
     go_ret;exact ⟨rfl,rfl⟩
   ·have h2':((x:Int) == (y:Int))=false:=by simp;omega
    have h0:r=1:=by
     rw [HR.out,jH,if_neg HE.out,if_neg];rintro (h | h)
     ·rw [<-HX.out,<-HY.out] at h;exact h1 h
     ·rw [<-HX.out,<-HY.out] at h;exact h2 h.1
    subst h0;clear HX HY h1;clear h2;go_enter Tryz.func170,Tryz.ntmps170
    go_wp2_with (first
     | (go_at_call_of 230 (Value.int .i64 (a:Int));refine (CA.out _).mono ?_;rintro e w' ⟨rfl,rfl⟩)
     | (go_at_call_of 230 (Value.int .i64 (b:Int));refine (CB.out _).mono ?_;rintro e w' ⟨rfl,rfl⟩)
     | (go_at_call_of 231 (Value.int .i64 (a:Int));refine (HA.out _).mono ?_;rintro e w' ⟨rfl,rfl⟩)
     | (go_at_call_of 231 (Value.int .i64 (b:Int));refine (HB.out _).mono ?_;rintro e w' ⟨rfl,rfl⟩))
    go_ret;exact ⟨rfl,rfl⟩
theorem aq.take {w:World} {a:Option Addr} {c:Nat} {xs:List Int} (h:aq w (.slice a xs.length c) xs) (k:Nat) (hk:k<=xs.length):aq w (.slice a k c) (xs.take k):=by
 obtain ⟨a',c',h1,⟨h0,hn⟩,h2,h3⟩:=h;cases h1;refine ⟨a,c,by simp [Nat.min_eq_left hk],⟨by simp;omega,hn⟩,by simp;omega,fun i hi=>?_⟩;simp only [List.length_take] at hi;obtain ⟨b,o,h4,h5⟩:=h3 i (by omega);exact ⟨b,o,h4,by simpa using h5⟩
theorem aq.drop {w:World} {b o c:Nat} {xs:List Int} (h:aq w (.slice (some ⟨b,o,none⟩) xs.length c) xs) (k:Nat) (hk:k<=xs.length):aq w (.slice (some ⟨b,o+k,none⟩) (xs.length - k) (c - k)) (xs.drop k):=by
 obtain ⟨a',c',h1,⟨h0,hn⟩,h2,h3⟩:=h;cases h1;refine ⟨some ⟨b,o+k,none⟩,c - k,by simp,⟨by simp;omega,fun h=>by cases h⟩,by simp;omega,fun i hi=>?_⟩;simp only [List.length_drop] at hi;obtain ⟨b',o',h4,h5⟩:=h3 (k+i) (by omega);cases h4;exact ⟨b,o+k,rfl,by simpa [Nat.add_assoc] using h5⟩
theorem aT.take {w:World} {a:Option Addr} {c:Nat} {ns:List Nat} (h:aT w (.slice a ns.length c) ns) (k:Nat) (hk:k<=ns.length):aT w (.slice a k c) (ns.take k):=by
 refine ⟨?_,fun n hn=>h.2 n (List.mem_of_mem_take hn)⟩;have:=aq.take (xs:=aO ns) (by simpa using h.1) k (by simpa using hk);simpa [aO,List.map_take] using this
theorem aT.drop {w:World} {b o c:Nat} {ns:List Nat} (h:aT w (.slice (some ⟨b,o,none⟩) ns.length c) ns) (k:Nat) (hk:k<=ns.length):aT w (.slice (some ⟨b,o+k,none⟩) (ns.length - k) (c - k)) (ns.drop k):=by
 refine ⟨?_,fun n hn=>h.2 n (List.mem_of_mem_drop hn)⟩;have:=aq.drop (xs:=aO ns) (by simpa using h.1) k (by simpa using hk);simpa [aO,List.map_drop] using this
theorem aT.shape {w:World} {v:Value} {ns:List Nat} (h:aT w v ns):∃ a c,v=.slice a ns.length c/\ns.length<=c/\(ns≠[]->∃ b o,a=some ⟨b,o,none⟩):=by
 obtain ⟨⟨a,c,h1,⟨h0,_⟩,_,h3⟩,_⟩:=h;refine ⟨a,c,by simpa using h1,by simpa using h0,fun hne=>?_⟩
 have:0<(aO ns).length:=by simpa using List.length_pos_iff.2 hne
 obtain ⟨b,o,h4,_⟩:=h3 0 this;exact ⟨b,o,h4⟩
def wD:Value->Nat | .slice _ n _=>n | _=>0
structure e_ (ns zs xs ys:List Nat):Prop where
 left:(zs++xs).Pairwise eB
 right:(zs++ys).Pairwise eB
 mem:∀ z,z∈ns ↔ z∈zs\/z∈xs\/z∈ys
 len:zs.length+xs.length+ys.length<=ns.length
theorem e_.start (ns:List Nat) (h:Nat):e_ ns [] (aR (ns.take h)) (aR (ns.drop h)):=by
 refine ⟨by simpa using cE _,by simpa using cE _,fun z=>?_,?_⟩
 ·rw [cd,cd];have:=List.mem_append (a:=z) (s:=ns.take h) (t:=ns.drop h);rw [List.take_append_drop] at this;simpa using this
 ·have h1:=gM (ns.take h);have h2:=gM (ns.drop h);simp at h1 h2⊢;omega
theorem e_.eq {ns zs xs ys:List Nat} {x:Nat} (h:e_ ns zs (x :: xs) (x :: ys)):e_ ns (zs++[x]) xs ys :=
 ⟨by simpa using h.left,by simpa using h.right,fun z=>by rw [h.mem];simp only [List.mem_append,List.mem_cons,List.not_mem_nil];grind,by have:=h.len;simp at this⊢;omega⟩
theorem e_.lt {ns zs xs ys:List Nat} {x y:Nat} (h:e_ ns zs (x :: xs) (y :: ys)) (hl:eB x y):e_ ns (zs++[x]) xs (y :: ys):=by
 refine ⟨by simpa using h.left,?_,fun z=>by rw [h.mem];simp only [List.mem_append,List.mem_cons,List.not_mem_nil];grind,by have:=h.len;simp at this⊢;omega⟩;have h1:=List.pairwise_append.1 h.left;have h2:=List.pairwise_append.1 h.right;rw [List.pairwise_append];refine ⟨?_,h2.2.1,?_⟩
 ·rw [List.pairwise_append];exact ⟨h1.1,by simp,fun a ha b hb=>by simp at hb;subst hb;exact h1.2.2 a ha b (List.mem_cons_self ..)⟩
 ·intro a ha b hb;rcases List.mem_append.1 ha with ha | ha
  ·exact h2.2.2 a ha b hb
  ·simp at ha;subst ha;rcases List.mem_cons.1 hb with e | e
   ·rw [e];exact hl
   ·exact fu _ _ _ hl ((List.pairwise_cons.1 h2.2.1).1 b e)
theorem e_.symm {ns zs xs ys:List Nat} (h:e_ ns zs xs ys):e_ ns zs ys xs :=
 ⟨h.right,h.left,fun z=>by rw [h.mem];constructor <;> (intro h;rcases h with h | h | h <;> simp_all),by have:=h.len;omega⟩
theorem e_.gt {ns zs xs ys:List Nat} {x y:Nat} (h:e_ ns zs (x :: xs) (y :: ys)) (hl:eB y x):e_ ns (zs++[y]) (x :: xs) ys:=(h.symm.lt hl).symm
theorem e_.doneL {ns zs ys:List Nat} (h:e_ ns zs [] ys):zs++[]++ys=aR ns:=by
 rw [List.append_nil];exact ga ns _ h.right fun x=>by rw [h.mem];simp
theorem e_.doneR {ns zs xs:List Nat} (h:e_ ns zs xs []):zs++xs++[]=aR ns:=by
 rw [List.append_nil];exact ga ns _ h.left fun x=>by rw [h.mem];simp
theorem e_.masks {ns zs xs ys:List Nat} (h:e_ ns zs xs ys) (hm:∀ n∈ns,Mk n):(∀ n∈zs,Mk n)/\(∀ n∈xs,Mk n)/\∀ n∈ys,Mk n :=
 ⟨fun n hn=>hm n ((h.mem n).2 (.inl hn)),fun n hn=>hm n ((h.mem n).2 (.inr (.inl hn))),fun n hn=>hm n ((h.mem n).2 (.inr (.inr hn)))⟩
abbrev zw (b o n c:Nat):Value:=.slice (if c=1 then some ⟨b,o,none⟩ else some ⟨b,o+1,none⟩) n (c - 1)
theorem aT.rest {w:World} {b o c:Nat} {x:Nat} {xs:List Nat} (h:aT w (.slice (some ⟨b,o,none⟩) (xs.length+1) c) (x :: xs)):aT w (zw b o xs.length c) xs:=by
 have h1:=aT.drop (ns:=x :: xs) h 1 (by simp);unfold zw;obtain ⟨a',c',h2,h3,_⟩:=h.shape;cases h2;by_cases hc:c=1
 ·rw [if_pos hc]
  have:xs=[]:=List.eq_nil_of_length_eq_zero (by simp at h3;omega)
  subst this;subst hc;exact ⟨⟨_,0,rfl,⟨by simp,fun h=>by cases h⟩,by simp,fun i hi=>by simp at hi⟩,by simp⟩
 ·rw [if_neg hc];simpa using h1
theorem aT.head {w:World} {b o c m:Nat} {x:Nat} {xs:List Nat} (h:aT w (.slice (some ⟨b,o,none⟩) m c) (x :: xs)):w.cell? ⟨b,o,none⟩=some (.int .i64 x):=by
 obtain ⟨⟨a',c',h2,_,_,h3⟩,_⟩:=h;obtain ⟨b',o',h4,h5⟩:=h3 0 (by simp);cases h2;cases h4;simpa using h5
theorem oM {ns:List Nat} (h:ns.length<2):aR ns=ns:=by
 match ns,h with
 | [],_=>rfl
 | [x],_=>rfl
theorem uE (w:World) (B:Nat) (hB:B<=w.heap.size):OwnInts (w.alloc (.cells #[] 3)) B (.slice (some ⟨w.heap.size,0,none⟩) 0 0) [] :=
 ⟨⟨by simp,.inr ⟨w.heap.size,0,#[],rfl,hB,heap_alloc_new w _,Nat.le_refl _,by unfold maxLen;omega,by simp,by simp⟩⟩,by simp⟩
theorem kg:∀ (k:Nat) (ns:List Nat) (v:Value) (w:World),ns.length<=k->aT w v ns->ns.length<=8796093022208 ->
  Calls Tryz.prog 107 #[v] w fun e w'=>(∃ v',e=.returned v'/\dm w' 0 v' (aR ns))/\af w w':=by
 intro k;induction k using Nat.strongRecOn with
 | ind k ih =>
  intro ns v w hk hv hl;obtain ⟨a,c,rfl,hc,hne⟩:=hv.shape;by_cases h2:ns.length<2
  ·have h2':(ns.length:Int)<2:=by omega
   have HV:=ae hv;have HS:=ae (oM h2);clear ih hne hv h2;go_enter Tryz.func107,Tryz.ntmps107;go_wp2_with (at_builtin;refine gk rfl _ _ rfl w.heap.size _ [] rfl (uE w _ (Nat.le_refl _)) _ (aO ns) rfl (HV.out.1.kept ((af.refl _).alloc _)) (by simp;omega) (by simp) ?_;intro v7 w7 hown7 _ hb7;have O7:=ae hown7;have HB7:=ae hb7;clear hown7 hb7);go_ret;exact ⟨⟨_,rfl,⟨by rw [HS.out];simpa using O7.out.mono (Nat.zero_le _),by rw [HS.out];exact HV.out.2⟩⟩,((af.refl _).alloc _).app HB7.out⟩
  ·obtain ⟨b,o,rfl⟩:=hne (fun e=>by subst e;simp at h2);obtain ⟨h,hh⟩:∃ h,h=ns.length / 2:=⟨_,rfl⟩;have hT:=hv.take h (by omega);have hD:=hv.drop h (by omega);obtain ⟨n,hn⟩:∃ n,n=ns.length:=⟨_,rfl⟩;rw [<-hn] at hk hl hc h2 hD hh⊢;have HIH:=ae ih;have HT:=ae hT;have HD:=ae hD;have HN:=ae hn;have hv2:=ae hv.2
   have HL:Hid (∀ W,af w W->Calls Tryz.prog 107 #[.slice (some ⟨b,o,none⟩) h c] W fun e w'=>(∃ v',e=.returned v'/\dm w' 0 v' (aR (ns.take h)))/\af W w') :=
    ae fun W hW=>HIH.out h (by omega) (ns.take h) _ W (by simp;omega) (HT.out.kept hW) (by simp;omega)
   have HR:Hid (∀ W,af w W->Calls Tryz.prog 107 #[.slice (some ⟨b,o+h,none⟩) (n - h) (c - h)] W fun e w'=>(∃ v',e=.returned v'/\dm w' 0 v' (aR (ns.drop h)))/\af W w') :=
    ae fun W hW=>HIH.out (n - h) (by omega) (ns.drop h) _ W (by have:=HN.out;simp;omega) (HD.out.kept hW) (by have:=HN.out;simp;omega)
   have hq1:Int.tdiv (n:Int) 2=(h:Int):=by rw [Int.tdiv_eq_ediv_of_nonneg (by omega)];omega
   have hq2:(n:Int) / 2=(h:Int):=by omega
   have hq3:IntKind.i64.wrap (h:Int)=(h:Int):=by rw [IntKind.wrap_i64];omega
   have hb1:(0:Int)<=(h:Int):=by omega
   have hb2:(h:Int)<=(n:Int):=by omega
   have hb3:(h:Int)<=(c:Int):=by omega
   have hb4:(n:Int)<=(c:Int):=by omega
   have h2':¬ (n:Int)<2:=by omega
   have hcn:h≠c:=by omega
   clear hT hD hn hv ih hne hh h2;go_enter Tryz.func107,Tryz.ntmps107;go_upto_region 3 with fail
   go_cut [3,4] (fun va vb wx=>aT wx va (aR (ns.take h))/\aT wx vb (aR (ns.drop h))/\af w wx)
   case first =>
    go_region_held3 (fun _=>True) (trivial)
     (first
      | (go_at_call_of 107 (Value.slice (some ⟨b,o,none⟩) h c);refine (HL.out _ (by first | exact (af.refl _).drew | exact (af.refl _).drew.trans hk6)).mono ?_;rintro e w5 ⟨⟨va,rfl,hoa⟩,hk5⟩)
      | (go_at_call 107;refine (HR.out _ (by first | exact (af.refl _).drew | exact (af.refl _).drew.trans hk5)).mono ?_;rintro e w6 ⟨⟨vb,rfl,hob⟩,hk6⟩))
    all_goals (go_wp2_with fail;go_meet;exact ⟨hoa.sets.kept hk6,hob.sets,((af.refl _).drew.trans hk5).trans hk6⟩)
   case rest =>
    obtain ⟨hA,hB,hK⟩:=hcut;have HA:=ae hA;have HB:=ae hB;have HK:=ae hK;clear hA hB hK;clear hq1 hq2 hq3 hb1 hb2 hb3 hb4 hcn HIH HT HD HL HR hk;go_wp2_with fail;obtain ⟨wo,rfl⟩:∃ wo:World,wo=wc:=⟨_,rfl⟩;go_loopw [3,4,5,6] (fun va vb vo _ wr=>∃ (xs ys zs:List Nat),Hid (aT wo va xs/\aT wo vb ys/\e_ ns zs xs ys)/\OwnInts wr wo.heap.size vo (aO zs)/\af wo wr) (fun va vb _ _ _=>wD va+wD vb)
    case atStart=>exact ⟨_,_,[],ae ⟨HA.out,HB.out,e_.start ns h⟩,OwnInts.nil _ _,af.refl _⟩
    case round =>
     obtain ⟨xs,ys,zs,HI,hO,hKr⟩:=hrel;have HO:=ae hO;have HKr:=ae hKr;have hlen:=HI.out.2.2.len;rw [<-HN.out] at hlen;have hmk:=HI.out.2.2.masks (fun m hm=>hv2.out m hm);have HM:=ae hmk;have hsz:=hKr.size;clear hO hKr hmk
     match xs,ys with
     | [],ys =>
      have HA2:=ae HI.out.1;have HB2:=ae HI.out.2.1;have HMI:=ae HI.out.2.2;clear HI HM;obtain ⟨aa,ca,rfl,hca,hna⟩:=HA2.out.shape;obtain ⟨ab,cb,rfl,hcb,hnb⟩:=HB2.out.shape;simp only [List.length_nil] at HA2 hca hlen⊢;clear hna hnb
      go_wp2_with (first
       | (at_builtin;refine gk rfl _ _ rfl wo.heap.size _ (aO zs) rfl HO.out _ (aO []) rfl (HA2.out.1.kept HKr.out) (by simp;omega) hsz ?_;intro v7 w7 hown7 _ hb7;have O7:=ae hown7;have HB7:=ae hb7;clear hown7 hb7)
       | (at_builtin;refine gk rfl _ _ rfl wo.heap.size _ (aO zs++aO []) rfl O7.out _ (aO ys) rfl (HB2.out.1.kept (HKr.out.app HB7.out)) (by simp;omega) (by have:=(HKr.out.app HB7.out).size;omega) ?_;intro v8 w8 hown8 _ hb8;have O8:=ae hown8;have HB8:=ae hb8;clear hown8 hb8))
      go_ret;refine ⟨⟨_,rfl,⟨?_,fun z hz=>hv2.out z ((cd ns z).1 hz)⟩⟩,HK.out.trans ((HKr.out.app HB7.out).app HB8.out)⟩;have:=O8.out;rw [<-List.map_append,<-List.map_append,HMI.out.doneL] at this;exact this.mono (Nat.zero_le _)
     | x :: xs,[] =>
      have HA2:=ae HI.out.1;have HB2:=ae HI.out.2.1;have HMI:=ae HI.out.2.2;clear HI HM;obtain ⟨aa,ca,rfl,hca,hna⟩:=HA2.out.shape;obtain ⟨ab,cb,rfl,hcb,hnb⟩:=HB2.out.shape;simp only [List.length_nil,List.length_cons] at HA2 HB2 hca hcb hlen⊢;have hp1:(0:Int)<((xs.length+1:Nat):Int):=by omega
      clear hna hnb
      go_wp2_with (first
       | (at_builtin;refine gk rfl _ _ rfl wo.heap.size _ (aO zs) rfl HO.out _ (aO (x :: xs)) rfl (HA2.out.1.kept HKr.out) (by simp;omega) hsz ?_;intro v7 w7 hown7 _ hb7;have O7:=ae hown7;have HB7:=ae hb7;clear hown7 hb7)
       | (at_builtin;refine gk rfl _ _ rfl wo.heap.size _ (aO zs++aO (x :: xs)) rfl O7.out _ (aO []) rfl (HB2.out.1.kept (HKr.out.app HB7.out)) (by simp;omega) (by have:=(HKr.out.app HB7.out).size;omega) ?_;intro v8 w8 hown8 _ hb8;have O8:=ae hown8;have HB8:=ae hb8;clear hown8 hb8))
      go_ret;refine ⟨⟨_,rfl,⟨?_,fun z hz=>hv2.out z ((cd ns z).1 hz)⟩⟩,HK.out.trans ((HKr.out.app HB7.out).app HB8.out)⟩;have:=O8.out;rw [<-List.map_append,<-List.map_append,HMI.out.doneR] at this;exact this.mono (Nat.zero_le _)
     | x :: xs,y :: ys =>
      have HA2:=ae HI.out.1;have HB2:=ae HI.out.2.1;have HMI:=ae HI.out.2.2;have mx:Mk x:=HM.out.2.1 x (List.mem_cons_self ..);have my:Mk y:=HM.out.2.2 y (List.mem_cons_self ..);clear HI HM;obtain ⟨aa,ca,rfl,hca,hna⟩:=HA2.out.shape;obtain ⟨ab,cb,rfl,hcb,hnb⟩:=HB2.out.shape;obtain ⟨ba,oa,rfl⟩:=hna (by simp);obtain ⟨bb,ob,rfl⟩:=hnb (by simp);simp only [List.length_cons] at HA2 HB2 hca hcb hlen⊢;have c1:=HKr.out.cell HA2.out.head;have c2:=HKr.out.cell HB2.out.head;clear hna hnb;have hp1:(0:Int)<((xs.length+1:Nat):Int):=by omega
      have hp2:(0:Int)<((ys.length+1:Nat):Int):=by omega
      have hp3:(1:Int)<=((xs.length+1:Nat):Int):=by omega
      have hp4:(1:Int)<=((ys.length+1:Nat):Int):=by omega
      have hp5:(1:Int)<=(ca:Int):=by omega
      have hp6:(1:Int)<=(cb:Int):=by omega
      have hcmp:∀ W,Calls Tryz.prog 170 #[.int .i64 x,.int .i64 y] W fun e w'=>e=.returned (.int .i64 (jH x y))/\w'=W:=fun W=>(oy mx my W).mono fun _ _ ⟨h1,h2⟩=>⟨h1,h2.symm⟩
      by_cases hxy:x=y
      ·rw [show jH x y=0 from if_pos hxy] at hcmp;subst hxy;have HC:=ae hcmp;clear hcmp;go_wp2_with fail;go_quiet ((go_at_call 170;exact Calls.quiet_of_same (HC.out _)));generalize HWQ:World.drewN wr _=wq;have HKq:Hid (af wr wq):=ae (by rw [<-HWQ];exact (af.refl _).drewN _);have HSq:wo.heap.size<=wq.heap.size:=by have:=HKq.out.size;omega
       have d1:=HKq.out.cell c1;have d2:=HKq.out.cell c2;clear HWQ c1 c2;go_wp2_with (at_builtin;refine dp rfl _ _ rfl wo.heap.size _ (aO zs) rfl (HO.out.kept (HKq.out.alloc _)) _ (x:Int) rfl (by simp) (by simp;omega) (by simp;omega) ?_;intro v7 w7 hown7 _ hb7;have O7:=ae hown7;have HB7:=ae hb7;clear hown7 hb7);go_roundw
       case rel=>exact ⟨xs,ys,zs++[x],ae ⟨HA2.out.rest,HB2.out.rest,HMI.out.eq⟩,by simpa [aO] using O7.out,((HKr.out.trans (HKq.out.alloc _)).app HB7.out)⟩
       case measure=>simp [wD];try omega
      ·by_cases hlt:eB x y
       ·rw [show jH x y=-1 by unfold jH;rw [if_neg hxy,if_pos hlt]] at hcmp;have HC:=ae hcmp;have HXY:=ae hlt;clear hcmp hlt hxy;go_wp2_with fail;go_quiet ((go_at_call 170;exact Calls.quiet_of_same (HC.out _)));generalize HWQ:World.drewN wr _=wq;have HKq:Hid (af wr wq):=ae (by rw [<-HWQ];exact (af.refl _).drewN _);have HSq:wo.heap.size<=wq.heap.size:=by have:=HKq.out.size;omega
        have d1:=HKq.out.cell c1;have d2:=HKq.out.cell c2;clear HWQ c1 c2;go_wp2_with (at_builtin;refine dp rfl _ _ rfl wo.heap.size _ (aO zs) rfl (HO.out.kept (HKq.out.alloc _)) _ (x:Int) rfl (by simp) (by simp;omega) (by simp;omega) ?_;intro v7 w7 hown7 _ hb7;have O7:=ae hown7;have HB7:=ae hb7;clear hown7 hb7);go_roundw
        case rel=>exact ⟨xs,y :: ys,zs++[x],ae ⟨HA2.out.rest,HB2.out,HMI.out.lt HXY.out⟩,by simpa [aO] using O7.out,((HKr.out.trans (HKq.out.alloc _)).app HB7.out)⟩
        case measure=>simp [wD];try omega
       ·rw [show jH x y=1 by unfold jH;rw [if_neg hxy,if_neg hlt]] at hcmp;have HC:=ae hcmp;have hgt:eB y x:=by rcases gN x y with h | h | h;exact absurd h hlt;exact absurd h hxy;exact h
        have HXY:=ae hgt;clear hcmp hlt hxy hgt;go_wp2_with fail;go_quiet ((go_at_call 170;exact Calls.quiet_of_same (HC.out _)));generalize HWQ:World.drewN wr _=wq;have HKq:Hid (af wr wq):=ae (by rw [<-HWQ];exact (af.refl _).drewN _);have HSq:wo.heap.size<=wq.heap.size:=by have:=HKq.out.size;omega
        have d1:=HKq.out.cell c1;have d2:=HKq.out.cell c2;clear HWQ c1 c2;go_wp2_with (at_builtin;refine dp rfl _ _ rfl wo.heap.size _ (aO zs) rfl (HO.out.kept (HKq.out.alloc _)) _ (y:Int) rfl (by simp) (by simp;omega) (by simp;omega) ?_;intro v7 w7 hown7 _ hb7;have O7:=ae hown7;have HB7:=ae hb7;clear hown7 hb7);go_roundw
        case rel=>exact ⟨x :: xs,ys,zs++[y],ae ⟨HA2.out,HB2.out.rest,HMI.out.gt HXY.out⟩,by simpa [aO] using O7.out,((HKr.out.trans (HKq.out.alloc _)).app HB7.out)⟩
        case measure=>simp [wD];try omega
def covB (l:List Nat) (s:Nat):Bool:=l.any fun t=>subN t s
theorem rQ {R:List Nat}:∀ {l:List Nat},R.Nodup->(∀ x∈R,x∈l)->l.length<=R.length->l.Perm R:=by
 induction R with
 | nil=>intro l _ _ hl;simp at hl;subst hl;exact .refl _
 | cons x R ih =>
  intro l hn hs hl;have hx:x∈l:=hs x (List.mem_cons_self ..);have h1:=List.perm_cons_erase hx;have h2:=ih (l:=l.erase x) (List.nodup_cons.1 hn).2 (fun y hy=>(List.mem_erase_of_ne (fun e=>(List.nodup_cons.1 hn).1 (by rw [<-e];exact hy))).2 (hs y (List.mem_cons_of_mem _ hy))) (by rw [List.length_erase_of_mem hx];simp at hl;omega);exact h1.trans (h2.cons x)
theorem sz {R rs:List Nat} (hR:AL R) (hl:rs.length=R.length) (hp:rs.Pairwise (fun a b=>eB a b\/a=b)) (hm:∀ x,x∈rs ↔ x∈R):rs=R:=by
 have hpR:R.Pairwise eB:=by rw [<-hR];exact dY R
 have hnR:R.Nodup:=hpR.imp fun {a b} h e=>by subst e;exact dr a h
 have hperm:=rQ hnR (fun x hx=>(hm x).2 hx) (Nat.le_of_eq hl);have hn:rs.Nodup:=hperm.symm.nodup hnR;have hlt:rs.Pairwise eB:=(hp.and hn).imp fun {a b} h=>h.1.resolve_right h.2
 exact db eB dr fu rs R hlt hpR hm
def sR (w':World) (e:Ending) (p:List Nat × List Nat):Prop:=∃ v1 v2 L,e=.returned (.tuple #[v1,v2,.nilIface])/\aM w' 0 v1 L/\L.Perm p.1/\OwnInts w' 0 v2 (aO p.2)
theorem nH (v:Value) (f:Fm) (q:Nat) (hq:q≠0) (w:World) (hs:∃ a n c,v=.slice a n c) (hr:∀ W,af w W->Calls Tryz.prog 77 #[jE v f] W fun e w'=>e=.returned (.tuple #[.slice none 0 0,.slice none 0 0,bI q])/\af W w') :
  Calls Tryz.prog 34 #[jE v f] w fun e w'=>e=.returned (.tuple #[.slice none 0 0,bI q])/\af w w':=by
 obtain ⟨a,n,c,rfl⟩:=hs;obtain ⟨vars,nodes,top⟩:=f;have H:Hid (∀ W,af w W->Calls Tryz.prog 77 #[.agg #[.int .i64 vars,.slice a n c,.int .i64 top]] W fun e w'=>e=.returned (.tuple #[.slice none 0 0,.slice none 0 0,bI q])/\af W w'):=ae hr;rw [bJ hq] at *;clear hr hq;show Calls _ _ #[.agg #[.int .i64 vars,.slice a n c,.int .i64 top]] _ _;go_enter Tryz.func34,Tryz.ntmps34;go_wp2_with (go_at_call 77;refine (H.out _ ((af.refl _).alloc _)).mono ?_;rintro e w1 ⟨rfl,hk1⟩);go_ret2;exact ⟨rfl,((af.refl _).alloc _).trans hk1⟩
theorem xV (v:Value) (V T:Nat) (p:List Nat × List Nat) (w:World) (hg:Good p.1) (hm:∀ r∈p.1,Mk r) (hs:∃ a n c,v=.slice a n c) (hr:∀ W,af w W->Calls Tryz.prog 77 #[.agg #[.int .i64 V,v,.int .i64 T]] W fun e w'=>sR w' e p/\af W w') :
  Calls Tryz.prog 34 #[.agg #[.int .i64 V,v,.int .i64 T]] w fun e w'=>(∃ v',e=.returned (.tuple #[v',.nilIface])/\dm w' 0 v' p.1)/\af w w':=by
 obtain ⟨a,n,c,rfl⟩:=hs;have H:=ae hr;have HG:=ae hg;have HM:=ae hm;clear hr hg hm;go_enter Tryz.func34,Tryz.ntmps34;go_wp2_with (go_at_call 77;refine (H.out _ ((af.refl _).alloc _)).mono ?_;rintro e w1 ⟨⟨v1,v2,L,rfl,ho1,hp1,ho2⟩,hk1⟩;obtain ⟨ln,hln⟩:∃ ln,ln=L.length:=⟨_,rfl⟩;obtain ⟨a1,c1,rfl⟩:=ho1.at.shape;obtain ⟨a2,n2,c2,rfl⟩:=ho2.ints.shape;rw [<-hln] at ho1;rw [<-hln];have O1:=ae ho1;have HLN:=ae hln;have HP1:=ae hp1;have hlb:ln<=10000:=(by rw [hln];exact ho1.at.len);clear hln hp1 ho1 ho2);have hk1w:=((af.refl _).alloc _).trans hk1;have HK1:=ae hk1w;clear hk1w hk1;go_loopg [7,21] ln (fun kx s7 s21 wr=>∃ (k:Nat) (vo:Value),s7=vo/\s21=.int .i64 k/\k<=ln/\ln - k<=kx/\Hid (OwnInts wr w1.heap.size vo (aO (L.take k)))/\Hid (af w1 wr))
 case atStart=>exact ⟨0,_,rfl,rfl,Nat.zero_le _,by omega,ae (OwnInts.nil _ _),ae (af.refl _)⟩
 case round =>
  obtain ⟨k,vo,rfl,rfl,hk,hkx,HO,HK⟩:=hrel;have hsz:=HK.out.size;obtain ⟨ao,no,co,hvo⟩:=HO.out.ints.shape;subst hvo;by_cases hlt:k<ln
  ·have hkl:k<L.length:=by have:=HLN.out;omega
   obtain ⟨b,o,rfl,hrg⟩:=(O1.out.at.kept HK.out).get k hkl;have hmk:Mk L[k]:=HM.out _ (HP1.out.mem_iff.1 (List.getElem_mem _));have hev:aZ L[k]=L[k]:=by unfold aZ;unfold Mk at hmk;omega
   have hnext:aO (L.take (k+1))=aO (L.take k)++[((aZ L[k]:Nat):Int)]:=by unfold aO;rw [hev,List.take_succ_eq_append_getElem hkl,List.map_append];rfl
   have hlen:(aO (L.take k)).length=k:=by simp [aO];omega
   have hkn:(k:Int)<(ln:Int):=by omega
   have HRG:Hid (wr.rangeAt b (o+k*3) [.int .i64 (aZ L[k]),.int .u64 (cr L[k]),.int .u64 (b_ L[k])]):=ae hrg;generalize aZ L[k]=z0 at *;generalize cr L[k]=z1 at *;generalize b_ L[k]=z2 at *;have HNX:=ae hnext;clear hrg hmk hev hnext;go_wp2_with (first | (with_reducible refine wpList_load_mid rfl 99 _ rfl b (o+k*3) rfl _ _ HRG.out Tryz.underlying99 rfl (by kernel_rfl) ?_) | (at_builtin;refine dp rfl _ _ rfl w1.heap.size _ (aO (L.take k)) rfl (HO.out.kept (((af.refl _).alloc _).alloc _)) _ (z0:Int) rfl (by simp) (by rw [hlen];omega) (by simp;omega) ?_;intro v7 w7 hown7 _ hb7;have O7:=ae hown7;have HB7:=ae hb7;clear hown7 hb7));go_roundg (ln - (k+1))
   case measure=>omega
   case rel=>exact ⟨k+1,v7,rfl,by go_num,by omega,Nat.le_refl _,ae (by rw [HNX.out];exact O7.out),ae (((HK.out.alloc _).alloc _).app HB7.out)⟩
  ·have hke:k=ln:=by omega
   have HF:Hid (OwnInts wr w1.heap.size (.slice ao no co) (aO L)):=ae (by have h:=HO.out;rw [hke,HLN.out,List.take_length] at h;exact h);have HML:Hid (∀ n∈L,Mk n):=ae fun x hx=>HM.out x (HP1.out.mem_iff.1 hx)
   clear hke;go_wp2_with (go_at_call 78;refine (qF w1.heap.size _ L _ HML.out HF.out hsz).mono ?_;rintro e w3 ⟨rfl,rs,hr1,hr2,hr3,hr4,ho3,hb3⟩;have O3:=ae ho3;have R1:=ae hr1;have R2:=ae hr2;have R3:=ae hr3;have R4:=ae hr4;clear ho3 hr1 hr2 hr3 hr4);go_ret2;have he:rs=p.1:=sz HG.out.1 (R2.out.trans HP1.out.length_eq) R3.out fun x=>(R4.out x).trans HP1.out.mem_iff
   refine ⟨⟨_,rfl,by rw [<-he];exact O3.out.mono (Nat.zero_le _),HM.out⟩,HK1.out.trans (HK.out.app hb3)⟩
def Ay (w:World) (B:Nat) (v:Value) (bs:List Bool):Prop:=w.ownsRow B 4 1 v bs.length (bs.map Value.bool)/\bs.length<=1000000
theorem sY (s k:Nat) (hs:s<16777216):(bits .and .i64 ((s:Int) / 2^k) 1 == 1)=s.testBit k:=by
 have e:(s:Int) / 2^k=((s / 2^k:Nat):Int):=by simp
 have hle:s / 2^k<=s:=Nat.div_le_self _ _;rw [e,show (1:Int)=((1:Nat):Int) from rfl,cR _ _ (by omega) (by omega),Nat.testBit_eq_decide_div_mod_eq,Nat.and_one_is_mod];rw [Bool.eq_iff_iff];simp;omega
def AK (w:World) (v:Value) (bs:List Bool):Prop :=
 ∃ (a:Option Addr) (c:Nat),v=.slice a bs.length c/\bs.length<=c/\bs.length<=1000000/\∀ i (_:i<bs.length),∃ b o,a=some ⟨b,o,none⟩/\w.cell? ⟨b,o+i,none⟩=some (.bool (bs.getD i false))
def nv:List Nat->Nat
 | []=>0
 | x :: l=>x+4294967296*nv l
def nw (n:Nat):List Nat:=if h:n=0 then [] else n % 4294967296 :: nw (n / 4294967296)
termination_by n
decreasing_by exact Nat.div_lt_self (by omega) (by omega)
def Wd (l:List Nat):Prop:=∀ x∈l,x<4294967296
theorem Wd.nil:Wd []:=fun x h=>by simp at h
theorem Wd.cons {x:Nat} {l:List Nat} (h:x<4294967296) (k:Wd l):Wd (x :: l):=fun y hy=>(List.mem_cons.1 hy).elim (fun e=>by rw [e];exact h) (k y)
theorem Wd.tail {x:Nat} {l:List Nat} (h:Wd (x :: l)):Wd l:=fun y hy=>h y (List.mem_cons_of_mem _ hy)
theorem Wd.head {x:Nat} {l:List Nat} (h:Wd (x :: l)):x<4294967296:=h x (List.mem_cons_self ..)
theorem Wd.take {l:List Nat} (h:Wd l) (n:Nat):Wd (l.take n):=fun y hy=>h y (List.mem_of_mem_take hy)
theorem Wd.drop {l:List Nat} (h:Wd l) (n:Nat):Wd (l.drop n):=fun y hy=>h y (List.mem_of_mem_drop hy)
theorem Wd.app {a b:List Nat} (h:Wd a) (k:Wd b):Wd (a++b):=fun y hy=>(List.mem_append.1 hy).elim (h y) (k y)
theorem Wd.set {l:List Nat} (h:Wd l) (i x:Nat) (hx:x<4294967296):Wd (l.set i x):=fun y hy=>(List.mem_or_eq_of_mem_set hy).elim (h y) (fun e=>by rw [e];exact hx)
theorem Wd.getD {l:List Nat} (h:Wd l) (i:Nat):l.getD i 0<4294967296:=by
 rw [List.getD_eq_getElem?_getD];cases hi:l[i]? with
 | none=>simp
 | some x=>simpa using h x (List.mem_of_getElem? hi)
theorem Wd.zeros (n:Nat):Wd (List.replicate n 0):=fun y hy=>by have:=List.eq_of_mem_replicate hy;omega
theorem cz:nv []=0:=rfl
theorem cu (x:Nat) (l:List Nat):nv (x :: l)=x+4294967296*nv l:=rfl
theorem jS (a b:List Nat):nv (a++b)=nv a+4294967296^a.length*nv b:=by
 induction a with
 | nil=>simp [nv]
 | cons x a ih=>rw [List.cons_append,cu,cu,ih,List.length_cons,Nat.pow_succ,Nat.mul_add,<-Nat.mul_assoc,Nat.mul_comm 4294967296 (4294967296^a.length)];omega
theorem dl {a:List Nat} (h:Wd a):nv a<4294967296^a.length:=by
 induction a with
 | nil=>simp [nv]
 | cons x a ih =>
  have h1:=ih h.tail;have h2:=h.head;rw [cu,List.length_cons,Nat.pow_succ];omega
theorem jo (n:Nat):nv (List.replicate n 0)=0:=by
 induction n with
 | zero=>rfl
 | succ n ih=>rw [List.replicate_succ,cu,ih]
theorem ap (a:List Nat) (i:Nat):nv (a.take (i+1))=nv (a.take i)+a.getD i 0*4294967296^i:=by
 by_cases h:i<a.length
 ·rw [List.take_succ_eq_append_getElem h,jS,cu,cz,List.length_take,Nat.min_eq_left (Nat.le_of_lt h),Nat.mul_comm];simp [List.getD_eq_getElem?_getD,h]
 ·rw [List.take_of_length_le (by omega),List.take_of_length_le (by omega)];simp [List.getD_eq_getElem?_getD,Nat.le_of_not_lt h]
theorem aC (a:List Nat) (i:Nat) (h:a.length<=i):nv (a.take i)=nv a:=by rw [List.take_of_length_le h]
theorem eV (a:List Nat) (i:Nat) (h:i<=a.length):nv a=nv (a.take i)+4294967296^i*nv (a.drop i):=by
 conv=>lhs;rw [<-List.take_append_drop i a]
 rw [jS,List.length_take,Nat.min_eq_left h]
theorem oj (l:List Nat):∀ (i x:Nat),i<l.length->nv (l.set i x)+l.getD i 0*4294967296^i=nv l+x*4294967296^i:=by
 induction l with
 | nil=>intro i x h;simp at h
 | cons y l ih =>
  intro i x h;cases i with
  | zero=>simp [cu];omega
  | succ i =>
   have:=ih i x (by simpa using h);rw [List.set_cons_succ,cu,cu,List.getD_cons_succ,Nat.pow_succ,<-Nat.mul_assoc,<-Nat.mul_assoc,Nat.mul_comm _ 4294967296,Nat.mul_comm (x*_) 4294967296];omega
theorem bY:nw 0=[]:=by rw [nw];simp
theorem jU {n:Nat} (h:n≠0):nw n=n % 4294967296 :: nw (n / 4294967296):=by rw [nw];simp [h]
theorem dN:∀ n,Wd (nw n):=by
 intro n;induction n using Nat.strongRecOn with
 | _ n ih =>
  by_cases h:n=0
  ·subst h;rw [bY];exact Wd.nil
  ·rw [jU h];exact Wd.cons (Nat.mod_lt _ (by omega)) (ih _ (Nat.div_lt_self (by omega) (by omega)))
theorem am:∀ n,nv (nw n)=n:=by
 intro n;induction n using Nat.strongRecOn with
 | _ n ih =>
  by_cases h:n=0
  ·subst h;rw [bY];rfl
  ·rw [jU h,cu,ih _ (Nat.div_lt_self (by omega) (by omega))];omega
def Pl (l:List Nat):Prop:=∀ h:l≠[],l.getLast h≠0
theorem ti:∀ {l:List Nat},Wd l->Pl l->nw (nv l)=l:=by
 intro l;induction l with
 | nil=>intro _ _;exact bY
 | cons x l ih =>
  intro hw hp;have hx:=hw.head
  have hne:nv (x :: l)≠0:=by
   rw [cu];by_cases hl:l=[]
   ·subst hl;have:=hp (by simp);simp at this;rw [cz];omega
   ·intro h0;have h1:nv l=0:=by omega
    have h2:=ih hw.tail (fun h=>by have:=hp (by simp);rwa [List.getLast_cons h] at this);rw [h1,bY] at h2;exact hl h2.symm
  rw [jU hne,cu];have e1:(x+4294967296*nv l) % 4294967296=x:=by omega
  have e2:(x+4294967296*nv l) / 4294967296=nv l:=by omega
  rw [e1,e2,ih hw.tail fun h=>by have:=hp (by simp);rwa [List.getLast_cons h] at this]
theorem wY (n:Nat):Pl (nw n):=by
 induction n using Nat.strongRecOn with
 | _ n ih =>
  by_cases h:n=0
  ·subst h;rw [bY];intro h;exact absurd rfl h
  ·rw [jU h];intro _;have h2:=ih (n / 4294967296) (Nat.div_lt_self (by omega) (by omega));by_cases h3:nw (n / 4294967296)=[]
   ·have h4:n / 4294967296=0:=by have:=am (n / 4294967296);rw [h3] at this;exact this.symm
    simp [h3];omega
   ·rw [List.getLast_cons h3];exact h2 h3
theorem om {a:List Nat} (hw:Wd a) {n:Nat} (hn:n<=a.length) (hz:∀ i,n<=i->a.getD i 0=0) (hl:n=0\/a.getD (n - 1) 0≠0):nw (nv a)=a.take n:=by
 have h1:nv a=nv (a.take n):=by
  have:∀ k,nv (a.take (n+k))=nv (a.take n):=by
   intro k;induction k with
   | zero=>rfl
   | succ k ih=>rw [<-Nat.add_assoc,ap,ih,hz (n+k) (by omega),Nat.zero_mul,Nat.add_zero]
  have h2:=this a.length;rw [aC a _ (by omega)] at h2;exact h2
 rw [h1];refine ti (hw.take n) fun h=>?_
 have hpos:0<n:=by
  rcases Nat.eq_zero_or_pos n with rfl | h2
  ·simp at h
  ·exact h2
 have:=hl.resolve_left (by omega);rw [List.getLast_eq_getElem];simp only [List.getElem_take,List.length_take,Nat.min_eq_left hn];rw [List.getD_eq_getElem?_getD,List.getElem?_eq_getElem (by omega)] at this;simpa using this
theorem aL {n k:Nat}:(nw n).length<=k ↔ n<4294967296^k:=by
 constructor
 ·intro h;have h1:=dl (dN n);rw [am] at h1;exact Nat.lt_of_lt_of_le h1 (Nat.pow_le_pow_right (by omega) h)
 ·intro h;induction k generalizing n with
  | zero=>simp at h;subst h;rw [bY];simp
  | succ k ih =>
   by_cases h0:n=0
   ·subst h0;rw [bY];simp
   ·rw [jU h0,List.length_cons];have:=ih (n:=n / 4294967296) (by rw [Nat.pow_succ] at h;exact Nat.div_lt_of_lt_mul (by rw [Nat.mul_comm];exact h));omega
theorem cL {n:Nat}:nw n=[] ↔ n=0:=by
 constructor
 ·intro h;have:=am n;rw [h] at this;exact this.symm
 ·intro h;rw [h];exact bY
theorem pU {a b:List Nat} (ha:Wd a) (hl:a.length=b.length) {k:Nat} (hk:k<a.length) (hd:∀ i,k<i->a.getD i 0=b.getD i 0) (hlt:a.getD k 0<b.getD k 0):nv a<nv b:=by
 have key:∀ j,nv (a.take (k+1+j))<nv (b.take (k+1+j)):=by
  intro j;induction j with
  | zero =>
   rw [Nat.add_zero,ap,ap];have h1:=dl (ha.take k);rw [List.length_take,Nat.min_eq_left (Nat.le_of_lt hk)] at h1;have h2:(a.getD k 0+1)*4294967296^k<=b.getD k 0*4294967296^k:=Nat.mul_le_mul_right _ hlt;rw [Nat.add_mul,Nat.one_mul] at h2;omega
  | succ j ih =>
   rw [<-Nat.add_assoc,ap,ap,hd (k+1+j) (by omega)];omega
 have:=key a.length
 rwa [aC a _ (by omega),aC b _ (by omega)] at this
theorem wX {a b:List Nat} (hl:a.length=b.length) (hd:∀ i,a.getD i 0=b.getD i 0):a=b:=by
 refine List.ext_getElem hl fun i h1 h2=>?_
 have:=hd i;simpa [List.getD_eq_getElem?_getD,h1,h2] using this
theorem jT {m n:Nat} (h:(nw m).length<(nw n).length):m<n:=by
 have h1:=(aL (n:=m)).1 (Nat.le_refl _);have h2:¬ n<4294967296^(nw m).length:=fun h2=>by have:=aL.2 h2;omega
 omega
theorem eU (s P:Nat):(s % 4294967296)*P+(s / 4294967296)*(4294967296*P)=s*P:=by
 have h:=Nat.div_add_mod s 4294967296
 have h2:(s % 4294967296)*P+(s / 4294967296)*(4294967296*P)=(4294967296*(s / 4294967296)+s % 4294967296)*P:=by
  rw [Nat.add_mul,Nat.mul_comm 4294967296 (s / 4294967296),Nat.mul_assoc];omega
 rw [h2,h]
theorem dz {l:List Nat} {i:Nat} (h:i<l.length) (x:Nat):nv ((l.set i x).take (i+1))=nv (l.take i)+x*4294967296^i:=by
 rw [ap,List.take_set_of_le (Nat.le_refl _)];simp [List.getD_eq_getElem?_getD,h]
theorem ek {l:List Nat} {i:Nat} (h:i<l.length) (x:Nat):(l.set i x).getD i 0=x:=by simp [List.getD_eq_getElem?_getD,h]
theorem cV {l:List Nat} {i j:Nat} (h:i≠j) (x:Nat):(l.set i x).getD j 0=l.getD j 0:=by simp [List.getD_eq_getElem?_getD,List.getElem?_set_ne h]
theorem kn {O c X Y x y P s:Nat} (h:O+c*P=X+Y) (hs:s=c+x+y):(O+(s % 4294967296)*P)+(s / 4294967296)*(4294967296*P)=(X+x*P)+(Y+y*P):=by
 have h1:=eU s P;have h2:s*P=c*P+x*P+y*P:=by rw [hs,Nat.add_mul,Nat.add_mul]
 omega
theorem qJ {O b X Y x y P o b':Nat} (h:O+Y=X+b*P) (hs:o+y+b=x+b'*4294967296):(O+o*P)+(Y+y*P)=(X+x*P)+b'*(4294967296*P):=by
 have h2:(o+y+b)*P=(x+b'*4294967296)*P:=by rw [hs]
 rw [Nat.add_mul,Nat.add_mul,Nat.add_mul,Nat.mul_assoc] at h2;omega
theorem lL {l:List Nat} (h:nv l=0):∀ i,l.getD i 0=0:=by
 induction l with
 | nil=>simp
 | cons x l ih =>
  rw [cu] at h;intro i;cases i with
  | zero=>rw [List.getD_cons_zero];omega
  | succ i=>rw [List.getD_cons_succ];exact ih (by omega) i
theorem dw (l:List Nat) (k i:Nat):(l.drop k).getD i 0=l.getD (k+i) 0:=by simp [List.getD_eq_getElem?_getD]
theorem cw {l:List Nat} {k i:Nat} (h:i<k):(l.take k).getD i 0=l.getD i 0:=by simp [List.getD_eq_getElem?_getD,List.getElem?_take_of_lt h]
theorem iV {l:List Nat} {k:Nat} (h:nv l<4294967296^k):(∀ j,k<=j->l.getD j 0=0)/\nv (l.take k)=nv l:=by
 by_cases hk:k<=l.length
 ·have h1:=eV l k hk
  have h2:nv (l.drop k)=0:=by
   rcases Nat.eq_zero_or_pos (nv (l.drop k)) with h3 | h3
   ·exact h3
   ·have:4294967296^k*1<=4294967296^k*nv (l.drop k):=Nat.mul_le_mul_left _ h3
    omega
  refine ⟨fun j hj=>?_,by rw [h1,h2];omega⟩;have:=lL h2 (j - k)
  rwa [dw,Nat.add_sub_cancel' hj] at this
 ·refine ⟨fun j hj=>?_,aC _ _ (by omega)⟩;simp [List.getD_eq_getElem?_getD,show l.length<=j by omega]
theorem wP {N c M x Y P y w s:Nat} (h:N+c*P=M+x*Y) (hs:s=c+x*y+w):∀ N',N'+w*P=N+(s % 4294967296)*P->N'+(s / 4294967296)*(4294967296*P)=M+x*(Y+y*P):=by
 intro N' hN;have h1:=eU s P;have h2:s*P=c*P+x*(y*P)+w*P:=by rw [hs,Nat.add_mul,Nat.add_mul,Nat.mul_assoc]
 rw [Nat.mul_add];omega
theorem uy {c x y w:Nat} (hc:c<4294967296) (hx:x<4294967296) (hy:y<4294967296) (hw:w<4294967296):c+x*y+w<18446744073709551616:=by
 have:x*y<=4294967295*4294967295:=Nat.mul_le_mul (by omega) (by omega)
 omega
theorem vQ {a b q r:Nat} (h:a=b*q+r) (hr:r<b):a / b=q/\a % b=r:=by
 subst h;constructor
 ·rw [Nat.mul_add_div (by omega),Nat.div_eq_of_lt hr,Nat.add_zero]
 ·rw [Nat.mul_add_mod,Nat.mod_eq_of_lt hr]
theorem aS {l:List Nat} {i:Nat} (h:i<l.length):nv (l.drop i)=l.getD i 0+4294967296*nv (l.drop (i+1)):=by
 rw [List.drop_eq_getElem_cons h,cu];simp [List.getD_eq_getElem?_getD,h]
theorem da {l:List Nat} {i:Nat} (h:l.length<=i):nv (l.drop i)=0:=by rw [List.drop_eq_nil_of_le h];rfl
theorem sy {X Q b rest x cur:Nat} (h:X=b*Q+rest) (hr:rest<b) (hb:b<4294967296) (hx:x<4294967296) (hc:cur=rest*4294967296+x) :
  x+4294967296*X=b*(cur / b+4294967296*Q)+cur % b/\cur % b<b/\cur / b<4294967296/\cur<18446744073709551616:=by
 have h1:=Nat.div_add_mod cur b
 have hcur:cur<b*4294967296:=by
  have:(rest+1)*4294967296<=b*4294967296:=Nat.mul_le_mul_right _ hr
  omega
 have hbb:b*4294967296<=4294967296*4294967296:=Nat.mul_le_mul_right _ (by omega);refine ⟨?_,Nat.mod_lt _ (by omega),Nat.div_lt_of_lt_mul hcur,by omega⟩;rw [Nat.mul_add,show b*(4294967296*Q)=4294967296*(b*Q) by rw [Nat.mul_left_comm]];subst h;omega
theorem zh {N X x n P w y:Nat} (hn:n<32) (hN:N=X*2^n) (hy:y=x*2^n) (hw:w<2^n):∀ N',N'+w*P=N+(w ||| (y % 4294967296))*P+(y / 4294967296)*(4294967296*P)->(w ||| (y % 4294967296))=w+y % 4294967296/\N'=(X+x*P)*2^n:=by
 have hor:(w ||| (y % 4294967296))=w+y % 4294967296:=by
  have e:y % 4294967296=2^n*(x % 2^(32 - n)):=by
   rw [hy,show (4294967296:Nat)=2^n*2^(32 - n) by rw [<-Nat.pow_add,show n+(32 - n)=32 by omega],Nat.mul_comm x,Nat.mul_mod_mul_left]
  rw [e,Nat.or_comm,<-Nat.two_pow_add_eq_or_of_lt hw];omega
 intro N' h;refine ⟨hor,?_⟩;rw [hor,Nat.add_mul] at h;have h1:=eU y P;have h2:(X+x*P)*2^n=N+y*P:=by rw [hN,hy,Nat.add_mul,Nat.mul_assoc,Nat.mul_assoc,Nat.mul_comm P]
 omega
theorem yd {x n y:Nat} (hn:n<32) (hx:x<4294967296) (hy:y=x*2^n):y<18446744073709551616/\y / 4294967296<2^n:=by
 have h2:2^n<=2^31:=Nat.pow_le_pow_right (by omega) (by omega);have h3:y<4294967296*2^n:=by rw [hy];exact (Nat.mul_lt_mul_right (Nat.pow_pos (by omega))).2 hx
 exact ⟨by omega,Nat.div_lt_of_lt_mul h3⟩
theorem tP {a:List Nat} (n i:Nat) (hn:n<32) (hi:i<a.length) (hw:Wd a):((a.getD i 0 ||| a.getD (i+1) 0*4294967296) / 2^n) % 4294967296=(nv a / 2^n / 4294967296^i) % 4294967296:=by
 have hor:(a.getD i 0 ||| a.getD (i+1) 0*4294967296)=a.getD i 0+4294967296*a.getD (i+1) 0:=by
  rw [Nat.or_comm,Nat.mul_comm,show (4294967296:Nat)=2^32 by rfl,<-Nat.two_pow_add_eq_or_of_lt (by have:=hw.getD i;omega)];omega
 have e1:nv a / 2^n / 4294967296^i=nv (a.drop i) / 2^n:=by
  rw [Nat.div_div_eq_div_mul,Nat.mul_comm,<-Nat.div_div_eq_div_mul,eV a i (Nat.le_of_lt hi),Nat.add_mul_div_left _ _ (Nat.pow_pos (by omega))];have:=dl (hw.take i);rw [List.length_take,Nat.min_eq_left (Nat.le_of_lt hi)] at this;rw [Nat.div_eq_of_lt this,Nat.zero_add]
 rw [e1,hor,aS hi]
 obtain ⟨z,hz⟩:∃ z,nv (a.drop (i+1))=a.getD (i+1) 0+4294967296*z:=by
  by_cases h:i+1<a.length
  ·exact ⟨_,aS h⟩
  ·refine ⟨0,?_⟩;rw [da (by omega)];simp [List.getD_eq_getElem?_getD,show a.length<=i+1 by omega]
 rw [hz,Nat.mul_add,<-Nat.add_assoc]
 have e2:4294967296*(4294967296*z)=2^n*(4294967296*(2^(32 - n)*z)):=by
  rw [<-Nat.mul_assoc,<-Nat.mul_assoc,Nat.mul_comm (2^n) 4294967296,<-Nat.mul_assoc,Nat.mul_assoc 4294967296 (2^n),<-Nat.pow_add,show n+(32 - n)=32 by omega]
 rw [e2,Nat.add_mul_div_left _ _ (Nat.pow_pos (by omega)),Nat.add_mul_mod_self_left]
theorem jk (x i:Nat):x % 4294967296^(i+1)=x % 4294967296^i+(x / 4294967296^i % 4294967296)*4294967296^i:=by
 rw [Nat.pow_succ,Nat.mod_mul,Nat.mul_comm (4294967296^i)]
end Go.Proofs.YtofibjflkebkpaaGreatDoor
