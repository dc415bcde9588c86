import Derived.WalkKit
import Derived.WalkSpells
import Derived.WalkLawsBesides
import Derived.Deep.QuietTactic
import Derived.BigQuiet
import Derived.Lib.Hide
import Derived.Shelf.Abstract
import Derived.Deep.RegionWith
import Derived.Laws.AppendOwnNone
import Derived.Lib.AppendZerosOnto
import Derived.Lib.SliceRun
import Derived.Lib.SlicesCompact
import Derived.Shelf.SlSortCmp.NoneTotal
import Derived.Maps.OwnOps
import Derived.Maps.OwnSet
import Derived.Maps.Views
import Derived.Deep.MidRow
import Derived.Deep.RegionHeld3
import Derived.Deep.AppendLies
import Derived.Deep.RegionLaw
import Derived.IntWalk
import Derived.StillTailTactics
import Derived.RegionTactic
import Derived.BigRegion
import Derived.ChangeAlike
import Derived.Sort.LotD2
import Derived.Sort.LotA
import Derived.Shelf.SlSortCmp.PdqK
import Derived.Deep.DeepCutAuto
import Derived.Lib.ItoaNum
import Derived.Deep.LoopGhost
import Derived.ProofKit
import Derived.OpenShut
import Derived.SizedLaws
import Derived.Lib.SmallJoins
import Derived.Deep.Slices
import Derived.Deep.Fields
import Derived.Deep.Strs
import Derived.Carry
import Derived.Lib.BitFns
import Derived.Deep.CutBlock
import Derived.Test.YtofibjflkebkpaaGreatDoorDT1
import Derived.Test.YtofibjflkebkpaaGreatDoorShelf
import Derived.Laws.IdiomStrings
import Derived.Test.YtofibjflkebkpaaGreatDoorDT5
import Derived.Test.YtofibjflkebkpaaGreatDoorDT6
import Derived.Test.YtofibjflkebkpaaGreatDoorDT10
import Derived.Test.YtofibjflkebkpaaGreatDoorDT9
import Derived.Test.YtofibjflkebkpaaGreatDoorDT4
import Derived.Test.YtofibjflkebkpaaGreatDoorDT7
import Derived.Test.YtofibjflkebkpaaGreatDoorDT8
import Derived.Test.YtofibjflkebkpaaGreatDoorChecked
import Derived.Test.YtofibjflkebkpaaGreatDoorRows
import Derived.Lay
import Derived.Stop.Joined
import Derived.Test.YtofibjflkebkpaaGreatDoorCards
import Derived.Test.YtofibjflkebkpaaGreatDoorTie
import Derived.LaidMore
import Derived.SevenTiedAt
set_option maxRecDepth 100000
set_option maxHeartbeats 16000000
namespace Go.Proofs.YtofibjflkebkpaaGreatDoor
open Go.RowKit
theorem qV (b:Nat) (w:World) (h0:w.cell? ⟨b,0,none⟩=some (.pointer none)) (hsh:w.shape? b=some (167,2)) (hfz:w.frozen? ⟨b,0,none⟩=false) :
  Calls Tryz.prog 212 #[.pointer (some ⟨b,0,none⟩)] w fun e w'=>e=.returned (.tuple #[])/\w'=w.setCell ⟨b,0,none⟩ (.pointer (some ⟨b,0,none⟩)):=by
 have hsz:(Tryz.prog.info? 167).map (fun i=>i.size)=some 2:=by kernel_rfl
 obtain ⟨j,hj,hjs⟩:=Option.map_eq_some_iff.1 hsz;have hne:j.size≠0:=by rw [hjs];decide
 go_enter Tryz.func212,Tryz.ntmps212;go_wp2;rw [Lib.run_to_unsafe w ⟨b,0,none⟩ Tryz.underlying164 Tryz.underlying243 hj hne hsh (Nat.zero_lt_succ 1)];simp only [Result.andThen];rw [Oper.upon_value];go_wp2;rw [run_callFunc_extern Tryz.func253 (by kernel_rfl) (by kernel_rfl) (by kernel_rfl) (e:=Extern.AbiNoEscape.same) (by kernel_rfl)];rw [Lib.run_noEscape];simp only [Result.andThen];rw [Oper.upon_value];go_wp2;rw [Lib.run_from_unsafe w ⟨b,0,none⟩ Tryz.underlying243 Tryz.underlying164 hj hsh Go.Proofs.Tryz.Builder_Extra_169.liesBuilder];simp only [Result.andThen];rw [Oper.upon_value];go_wp2;go_end0;exact ⟨rfl,rfl⟩
theorem qW (B b:Nat) (s:ByteArray) (w:World) (hB:B<=b) (hbk:w.heap[b]?=some (.cells #[.pointer none,.slice none 0 0] 167 (0,0))) (hlen:s.size<=140737488355328) (hBw:B<=w.heap.size) :
  Calls Tryz.prog 149 #[.pointer (some ⟨b,0,none⟩),.string s] w fun e w'=>e=.returned (.tuple #[.int .i64 s.size,.nilIface])/\(Lib.BuilderAt 167 5 B b (.pointer (some ⟨b,0,none⟩)) (Lib.strCells s) w'/\Below B w w'):=by
 obtain ⟨i0,hi,hz0,hz1,hz2⟩:=info_parts Go.Proofs.Tryz.Builder_Extra_169.infoByte
 have hlt:b<w.heap.size:=by
  rcases Nat.lt_or_ge b w.heap.size with h' | h'
  ·exact h'
  ·simp [Array.getElem?_eq_none h'] at hbk
 have e0:w.cell? ⟨b,0,none⟩=some (.pointer none):=by simp [World.cell?,hbk]
 have ef:w.frozen? ⟨b,0,none⟩=false:=Lib.frozen_of_heap hbk 0;have es:w.shape? b=some (167,2):=by simp [World.shape?,hbk]
 obtain ⟨w1,hw1⟩:∃ w1,w1=w.setCell ⟨b,0,none⟩ (.pointer (some ⟨b,0,none⟩)):=⟨_,rfl⟩;have HCK:Hid (Calls Tryz.prog 212 #[.pointer (some ⟨b,0,none⟩)] w fun e w'=>e=.returned (.tuple #[])/\w'=w1):=ae (by rw [hw1];exact qV b w e0 es ef);obtain ⟨v,hv⟩:∃ v:Value,v=.slice none 0 0:=⟨_,rfl⟩;have HOW:Hid (w1.ownsRow B 5 1 v 0 []):=ae (by rw [hv];exact World.ownsRow_nil _ _ _ _);have HNB:Hid (v.ownBlock=none):=ae (by rw [hv];rfl)
 have hb1:w1.heap[b]?=some (.cells #[.pointer (some ⟨b,0,none⟩),v] 167 (0,0)):=by
  rw [hw1,hv];have:=heap_setCell_same w b 0 _ _ (.pointer (some ⟨b,0,none⟩)) hbk;simpa using this
 have hk1:Below B w w1:=by rw [hw1];exact (Below.refl B w).setCell (p:=⟨b,0,none⟩) hB _
 have hs1:w1.heap.size=w.heap.size:=by rw [hw1];simp
 have c0:w1.cell? ⟨b,0,none⟩=some (.pointer (some ⟨b,0,none⟩)):=by rw [Lib.cell_of_heap hb1];rfl
 have c1:w1.cell? ⟨b,1,none⟩=some v:=by rw [Lib.cell_of_heap hb1];rfl
 have HB1:=ae hb1;have HK1:=ae hk1;have HI:=ae hi;have HZ0:=ae hz0;have HZ1:=ae hz1;have HZ2:=ae hz2;clear hw1 hv hbk e0 ef es hb1 hk1 hi hz0 hz1 hz2;go_enter Tryz.func149,Tryz.ntmps149;go_wp2_with (go_at_call 212;refine HCK.out.mono ?_);rintro e w1' ⟨rfl,rfl⟩;go_wp2_with (at_builtin;refine Lib.wpList_append_own_string _ rfl _ _ 165 9 rfl B 5 i0 Tryz.underlying165 Tryz.underlying9 HI.out HZ0.out HZ1.out HZ2.out v 0 [] rfl HOW.out s rfl ?c3 ?c4 ?c5 ?_)
 case c3=>unfold maxLen;omega
 case c4=>omega
 case c5=>omega
 intro v' w2 hown' hgrow _
 have hb2:w2.heap[b]?=some (.cells #[.pointer (some ⟨b,0,none⟩),v] 167 (0,0)):=by
  rw [hgrow.block b (by rw [hs1];exact hlt) (fun e=>by rw [HNB.out] at e;cases e)];exact HB1.out
 have d0:w2.cell? ⟨b,0,none⟩=some (.pointer (some ⟨b,0,none⟩)):=by rw [Lib.cell_of_heap hb2];rfl
 have d1:w2.cell? ⟨b,1,none⟩=some v:=by rw [Lib.cell_of_heap hb2];rfl
 have f1:w2.frozen? ⟨b,1,none⟩=false:=Lib.frozen_of_heap hb2 1
 obtain ⟨ao,n',cap,rfl⟩:∃ ao n' cap,v'=.slice ao n' cap:=by
  rcases hown'.2 with ⟨hv,_⟩ | ⟨g,cap,cur,hv,_⟩
  ·exact ⟨_,_,_,hv⟩
  ·exact ⟨_,_,_,hv⟩
 go_wp2;go_ret2;refine ⟨rfl,?_,?_⟩
 ·exact Lib.BuilderAt.put (T:=167) (e:=5) hB hb2 (bs':=Lib.strCells s) (by simpa [Lib.strCells_length] using hown') Go.Proofs.Tryz.Builder_Extra_169.neB5
 ·exact (HK1.out.grown hgrow (by rw [hs1];exact hBw) (fun k hk=>by rw [HNB.out] at hk;cases hk)).setCell (p:=⟨b,1,none⟩) hB _
def kX (r k:Nat):List Value:=(List.range 9).map fun j=>.int .u8 (((if 9<=j+k then 48+r / 10^(8 - j) % 10 else 0:Nat)):Int)
theorem tA (r k:Nat) (hk:k<9):(kX r k).set (8 - k) (.int .u8 ((48+r / 10^k % 10:Nat):Int))=kX r (k+1):=by
 match k,hk with
 | 0,_=>rfl
 | 1,_=>rfl
 | 2,_=>rfl
 | 3,_=>rfl
 | 4,_=>rfl
 | 5,_=>rfl
 | 6,_=>rfl
 | 7,_=>rfl
 | 8,_=>rfl
def gh (r:Nat):List UInt8:=(List.range 9).map fun j=>UInt8.ofNat (48+r / 10^(8 - j) % 10)
theorem eO (r:Nat):(gh r).length=9:=by unfold gh;simp
theorem uC (r j:Nat) (h:j<(gh r).length):(((gh r)[j].toNat:Nat):Int)=((48+r / 10^(8 - j) % 10:Nat):Int):=by
 rw [eO] at h
 have:r / 10^(8 - j) % 10<10:=Nat.mod_lt _ (by decide)
 simp [gh];omega
theorem vD (r j:Nat) (h:j<9):(kX r 9)[j]'(by simp [kX];omega)=.int .u8 ((48+r / 10^(8 - j) % 10:Nat):Int):=by
 simp [kX]
theorem wV (r:Nat) (hr:r<4294967296) (w:World):Calls Tryz.prog 148 #[.int .u32 r] w fun e w'=>e=.returned (.string ⟨(gh r).toArray⟩)/\af w w':=by
 obtain ⟨w1,hw1⟩:∃ w1,w1=w.alloc (.cells #[.int .u8 0,.int .u8 0,.int .u8 0,.int .u8 0,.int .u8 0,.int .u8 0,.int .u8 0,.int .u8 0,.int .u8 0] 211):=⟨_,rfl⟩;have HR1:Hid (ai w1 w.heap.size 211 (kX r 0)):=ae (by rw [hw1];exact ai.made w #[.int .u8 0,.int .u8 0,.int .u8 0,.int .u8 0,.int .u8 0,.int .u8 0,.int .u8 0,.int .u8 0,.int .u8 0] 211);have HK1:Hid (af w w1):=ae (by rw [hw1];exact (af.refl w).alloc _);have HW1:=ae hw1
 have HCV:Hid (∀ W,ai W w.heap.size 211 (kX r 9)->(convert 165 9 (.slice (some ⟨w.heap.size,0,none⟩) 9 9)).run Tryz.prog W=.ok (.string ⟨(gh r).toArray⟩) W):=ae fun W hW=>by
  have h:=run_convert_bytes_back (P:=Tryz.prog) W 165 9 5 ⟨w.heap.size,0,none⟩ 9 (gh r) Tryz.underlying165 Tryz.underlying5 Tryz.underlying9 (fun j hj=>by
   have hj9:j<9:=by rw [eO] at hj;exact hj
   have h1:=hW.cell (i:=j) (by simp [kX];omega);rw [vD r j hj9,<-uC r j hj] at h1;rw [show ({ block:=w.heap.size,off:=0 }:Addr).add j=⟨w.heap.size,j,none⟩ by unfold Addr.add;split <;> simp_all];exact h1)
  rw [eO] at h;exact h
 clear hw1;go_enter Tryz.func148,Tryz.ntmps148;go_wp2_with fail;try rw [<-HW1.out]
 go_loopg [0,4] 9 (fun kx s0 s4 wr=>∃ k:Nat,k<=9/\s4=.int .i64 (8 - (k:Int))/\9 - k<=kx/\s0=.int .u32 (r / 10^k:Nat)/\Hid (ai wr w.heap.size 211 (kX r k))/\Hid (af w wr))
 case atStart=>exact ⟨0,Nat.zero_le _,rfl,by omega,by simp,HR1,HK1⟩
 case round =>
  obtain ⟨k,hk,rfl,hkx,rfl,HR,HK⟩:=hrel;by_cases hlt:k<9
  ·have hkn:0<=(8 - (k:Int)):=by omega
   have HST:=ae (tA r k hlt);have hd:r / 10^k<4294967296:=Nat.lt_of_le_of_lt (Nat.div_le_self _ _) hr;have HDD:Hid (r / 10^(k+1)=r / 10^k / 10):=ae (by rw [Nat.pow_succ,Nat.div_div_eq_div_mul]);obtain ⟨m,hm⟩:∃ m,m=r / 10^k:=⟨_,rfl⟩;rw [<-hm] at hd HST HDD⊢;obtain ⟨d,hdd⟩:∃ d,d=m % 10:=⟨_,rfl⟩;have hd10:d<10:=by omega
   have f0:=HR.out.free (8 - k);have HLT:Hid (8 - k<(kX r k).length):=ae (by simp [kX];omega);have hc:=HR.out.cell (i:=8 - k) HLT.out;have hix:(8 - (k:Int)).toNat=8 - k:=by omega
   have hi9:(8 - (k:Int))<9:=by omega
   have p1:Int.tmod (m:Int) 10=(d:Int):=by rw [hdd];exact Int.ofNat_tmod m 10
   have p2:IntKind.u32.wrap (48+(d:Int))=((48+d:Nat):Int):=by rw [IntKind.wrap_u32];omega
   have p3:IntKind.u8.wrap ((48+d:Nat):Int)=((48+d:Nat):Int):=by rw [IntKind.wrap_u8];omega
   clear hm;go_wp2;go_roundg (9 - (k+1))
   case measure=>omega
   case rel =>
    refine ⟨k+1,by omega,by go_num,Nat.le_refl _,?_,?_,?_⟩
    ·rw [HDD.out];simp
    ·refine ae ?_;have h:=HR.out.store (8 - k) (.int .u8 ((48+m % 10:Nat):Int));rw [HST.out] at h;simpa using h
    ·exact ae (HK.out.store (Nat.le_refl _) _ _)
  ·have hke:k=9:=by omega
   have hkn:¬ 0<=(8 - (k:Int)):=by omega
   rw [hke] at HR;have hcv:=HCV.out wr HR.out;clear hke;go_wp2;go_ret;exact ⟨rfl,HK.out⟩
theorem ww:(Tryz.prog.info? 9).map (fun i=>(i.zero,i.size,i.bytes))=some (some (.string .empty),1,16):=by kernel_rfl
theorem uF {w:World} {B:Nat} {e:TypeId} {v y:Value} (h:w.ownsRow B e 1 v 1 [y]):∃ g cap,v=.slice (some ⟨g,0,none⟩) 1 cap/\w.cell? ⟨g,0,none⟩=some y:=by
 obtain ⟨_,h2⟩:=h;rcases h2 with ⟨_,h⟩ | ⟨g,cap,cur,rfl,h5,h6,h7,h8,h9,h10⟩
 ·cases h
 ·refine ⟨g,cap,rfl,?_⟩
  have e1:(cur.toList.take 1)[0]?=some y:=by
   have:=congrArg (fun l=>l[0]?) h10;simpa using this
  simp only [World.cell?,h6];simpa using e1
theorem lM {n:Nat} (h0:n≠0) (h:n<4294967296):nw n=[n]:=by
 rw [jU h0,Nat.mod_eq_of_lt h,Nat.div_eq_of_lt h,bY]
theorem nm (v:Value) (xs:List Nat) (n:Nat) (l:List UInt8) (w:World) (hv:ah w v xs) (hn:nv xs=n) (h0:n≠0) (h9:n<1000000000) (hl:Lib.trimLeftB (gh n) 48=l) (hne:l≠[]) :
  Calls Tryz.prog 92 #[v] w fun e w'=>e=.returned (.string ⟨l.toArray⟩)/\af w w':=by
 have HT:Hid (Calls Tryz.prog 116 #[v] w fun e w'=>(∃ v',e=.returned v'/\ah w' v' [n])/\af w w'):=ae (by have h:=bh v xs w hv;rw [hn,lM h0 (by omega)] at h;exact h)
 have HSM:Hid (∀ W va,ah W va [n]->Calls Tryz.prog 147 #[va,.int .u32 (1000000000:Nat)] W fun e w'=>(∃ v',e=.returned (.tuple #[v',.int .u32 n])/\ah w' v' [])/\af W w'):=ae fun W va h=>by
  have h:=nE va [n] 1000000000 W h (by omega) (by omega);have e1:nv [n]=n:=by simp [nv]
  rw [e1,Nat.mod_eq_of_lt h9,Nat.div_eq_of_lt h9,bY] at h;exact h
 have HNI:=ae (fun W=>wV n (by omega) W);obtain ⟨N9,hN9⟩:∃ N9,N9=gh n:=⟨_,rfl⟩;have HLEN:Hid (N9.length=9):=ae (by rw [hN9];exact eO n)
 have HN9:Hid (N9≠[]):=ae fun h=>by
  have h2:=HLEN.out;rw [h] at h2;simp at h2
 rw [<-hN9] at HNI hl
 have HTR:Hid (∀ W,Calls Tryz.prog 150 #[.string ⟨N9.toArray⟩,.string ⟨#[48]⟩] W fun e w'=>e=.returned (.string ⟨l.toArray⟩)/\w'=W):=ae fun W=>by
  have h:=Go.Proofs.Tryz.strings_TrimLeft_one ⟨N9.toArray⟩ 48 (by decide) W;rw [show (⟨N9.toArray⟩:ByteArray).data.toList=N9 from rfl,hl] at h;exact h
 have HNE:Hid ((⟨l.toArray⟩:ByteArray)≠⟨#[]⟩):=ae fun h=>hne (by
  have:=congrArg (fun b=>b.data.toList) h;simpa using this)
 have hie:l.isEmpty=false:=by cases l with
  | nil=>exact absurd rfl hne
  | cons _ _=>rfl
 have HV:=ae hv;obtain ⟨av,cv,rfl⟩:=hv.shape;clear hv hn h9 hl hne hN9;go_enter Tryz.func92,Tryz.ntmps92;go_wp2_with fail;refine HT.out.mono ?_;rintro e w2 ⟨⟨v2,rfl,hv2⟩,hk2⟩;have HV2:=ae hv2;have HK2:=ae hk2;clear hv2 hk2;go_wp2_with fail;go_loopg [0,3] 1 (fun kx s0 s3 wr=>((1<=kx/\s3=.slice none 0 0/\Hid (ah wr s0 [n]))\/(Hid (ah wr s0 [])/\Hid (wr.ownsRow w2.heap.size 9 1 s3 1 [.string ⟨N9.toArray⟩])))/\Hid (af w2 wr))
 case atStart=>exact ⟨.inl ⟨Nat.le_refl _,rfl,HV2⟩,ae (af.refl _)⟩
 case round =>
  obtain ⟨hor,HK⟩:=hrel;rcases hor with ⟨hkx,rfl,HA⟩ | ⟨HA,HO⟩
  ·obtain ⟨a0,c0,rfl⟩:=HA.out.shape;simp only [List.length_singleton] at HA⊢
   go_wp2_with (first
    | (go_at_call 147;refine (HSM.out _ _ HA.out).mono ?_;rintro e w3 ⟨⟨v3,rfl,hv3⟩,hk3⟩;have HV3:=ae hv3;have HK3:=ae hk3;clear hv3 hk3)
    | (go_at_call 148;refine (HNI.out _).mono ?_;rintro e w4 ⟨rfl,hk4⟩;have HK4:=ae hk4;clear hk4)
    | (at_builtin;refine nN 160 9 _ 16 ww Tryz.underlying160 rfl rfl _ _ rfl w2.heap.size _ [] rfl (World.ownsRow_nil _ _ _ _) _ (.string ⟨N9.toArray⟩) rfl (by simp) rfl (by simp) (by simp [maxLen]) (by have:=HK.out.size;have:=HK3.out.size;have:=HK4.out.size;simp;omega) ?_;intro v' w' h5 _ h6;have H5:=ae h5;have H6:=ae h6;clear h5 h6))
   go_roundg 0
   case measure=>omega
   case rel =>
    have hk:=((HK.out.trans HK3.out).trans HK4.out).alloc (.cells #[.string ⟨N9.toArray⟩] 9);refine ⟨.inr ⟨ae ?_,ae (by simpa using H5.out)⟩,ae (hk.app H6.out)⟩;obtain ⟨a9,c9,i1,i2,i3,i4,_⟩:=HV3.out;exact ⟨a9,c9,i1,i2,i3,i4,fun i hi=>by simp at hi⟩
  ·obtain ⟨a0,c0,rfl⟩:=HA.out.shape;simp only [List.length_nil] at HA⊢;obtain ⟨g3,cap3,rfl,hc3⟩:=uF HO.out;have HC3:=ae hc3;clear hc3;go_wp2_with fail;obtain ⟨w4,hw4⟩:∃ w4,w4=wr.alloc (.cells #[.pointer none,.slice none 0 0] 167):=⟨_,rfl⟩;have HBK4:Hid (w4.heap[wr.heap.size]?=some (.cells #[.pointer none,.slice none 0 0] 167 (0,0))):=ae (by rw [hw4];exact heap_alloc_new wr _);have HKR4:Hid (af wr w4):=ae (by rw [hw4];exact (af.refl wr).alloc _);try rw [<-hw4]
   clear hw4;have HSG:Hid (∀ W,Lib.BuilderAt 167 5 wr.heap.size wr.heap.size (.pointer (some ⟨wr.heap.size,0,none⟩)) (Lib.byteCells N9) W->af wr W->Calls Tryz.prog 151 #[.pointer (some ⟨wr.heap.size,0,none⟩)] W fun e w'=>e=.returned (.string ⟨N9.toArray⟩)/\af wr w'):=ae fun W hb hk=>(Go.Proofs.Tryz.Builder_String wr.heap.size wr.heap.size N9 W (.inr hb) HN9.out).mono fun e w' ⟨h1,h2⟩=>⟨h1,hk.app h2⟩
   go_loopg [7] 1 (fun kx s7 W=>((1<=kx/\s7=.int .i64 0/\Hid (W.heap[wr.heap.size]?=some (.cells #[.pointer none,.slice none 0 0] 167 (0,0))))\/(s7=.int .i64 (-1)/\Hid (Lib.BuilderAt 167 5 wr.heap.size wr.heap.size (.pointer (some ⟨wr.heap.size,0,none⟩)) (Lib.byteCells N9) W)))/\Hid (af wr W))
   case atStart=>exact ⟨.inl ⟨Nat.le_refl _,rfl,HBK4⟩,HKR4⟩
   case round =>
    obtain ⟨hor,HKW⟩:=hrel;rcases hor with ⟨hkx,rfl,HB⟩ | ⟨rfl,HB⟩
    ·have hce:=HKW.out.cell HC3.out;go_wp2_with (go_at_call 149;refine (qW _ _ ⟨N9.toArray⟩ _ (Nat.le_refl _) HB.out (by show N9.toArray.size<=_;rw [List.size_toArray,HLEN.out];omega) HKW.out.size).mono ?_;rintro e w5 ⟨rfl,hb5,hk5⟩;have HB5:=ae hb5;have HK5:=ae hk5;clear hb5 hk5);go_roundg 0
     case measure=>omega
     case rel=>exact ⟨.inr ⟨by go_num,ae HB5.out⟩,ae (HKW.out.app HK5.out)⟩
    ·go_wp2_with (first
      | (go_at_call 151;refine (HSG.out _ HB.out HKW.out).mono ?_;rintro e w6 ⟨rfl,hk6⟩;have HK6:=ae hk6;clear hk6)
      | (go_at_call 150;refine (HTR.out _).mono ?_;rintro e w7 ⟨rfl,rfl⟩))
     go_ret;exact ⟨rfl,HK2.out.trans (HK.out.trans HK6.out)⟩
theorem uI {q:Rat} (h:q.num≠0):ag (aj q)=(decide (q.num<0),nw q.num.natAbs,nw q.den):=by
 have hv:=iv q;have hc:aj q=⟨decide (q.num<0),nw q.num.natAbs,nw q.den⟩:=by unfold aj;rw [if_neg h]
 unfold ag;rw [if_pos]
 ·rw [hc]
 ·refine ⟨hv,?_⟩;rw [hc];exact fun e=>absurd (cL.1 e) (by omega)
theorem su (v:Value) (q:Rat) (a b:Nat) (la lb s:List UInt8) (w:World) (hv:RatAt w v (aj q)) (hq:q.num=(a:Int)) (hd:q.den=b) (ha0:a≠0) (ha9:a<1000000000) (hb1:1<b) (hb9:b<1000000000)
  (hla:Lib.trimLeftB (gh a) 48=la) (hlb:Lib.trimLeftB (gh b) 48=lb) (hna:la≠[]) (hnb:lb≠[]) (hs:la++47 :: lb=s) :
  Calls Tryz.prog 44 #[v] w fun e w'=>e=.returned (.string ⟨s.toArray⟩)/\af w w':=by
 have hp:ag (aj q)=(false,[a],[b]):=by
  rw [uI (by rw [hq];omega),hq,hd,Int.natAbs_natCast,lM ha0 (by omega),lM (n:=b) (by omega) (by omega)];simp
 have HPA:Hid (∀ W,af w W->Calls Tryz.prog 62 #[v] W fun e w'=>(∃ u1 u2,e=.returned (.tuple #[.bool false,u1,u2])/\ah w' u1 [a]/\ah w' u2 [b])/\af W w'):=ae fun W hk=>by
  have hsh:(aj q).Short 1:=by
   have hc:aj q=⟨decide (q.num<0),nw q.num.natAbs,nw q.den⟩:=by unfold aj;rw [if_neg (by rw [hq];omega)]
   rw [hc,hq,hd,Int.natAbs_natCast,lM ha0 (by omega),lM (n:=b) (by omega) (by omega)];exact ⟨Nat.le_refl _,Nat.le_refl _⟩
  have h:=bU v (aj q) W (hv.kept hk) ⟨Nat.le_trans hsh.1 (by omega),Nat.le_trans hsh.2 (by omega)⟩;rw [hp] at h;exact h
 have HTA:=ae (fun W u (h:ah W u [a])=>nm u [a] a la W h (by simp [nv]) ha0 ha9 hla hna);have HTB:=ae (fun W u (h:ah W u [b])=>nm u [b] b lb W h (by simp [nv]) (by omega) hb9 hlb hnb)
 have HCM:Hid (∀ W u1 u2,ah W u1 [b]->ah W u2 [1]->Calls Tryz.prog 69 #[u1,u2] W fun e w'=>e=.returned (.int .i64 1)/\af W w'):=ae fun W u1 u2 h1 h2=>by
  have h:=dM u1 u2 [b] [1] W h1 h2;have e1:nv [b]=b:=by simp [nv]
  have e2:nv [1]=1:=rfl;rw [e1,e2] at h;have e3:cU b 1=1:=by unfold cU;rw [if_neg (by omega),if_pos (by omega)]
  rwa [e3] at h
 have HS:Hid ((⟨la.toArray⟩:ByteArray)++((⟨#[47]⟩:ByteArray)++⟨lb.toArray⟩)=⟨s.toArray⟩):=ae (by
  apply ByteArray.ext;rw [ByteArray.data_append,ByteArray.data_append];apply Array.toList_inj.1;simp [<-hs])
 have hl9:la.length<=9:=by rw [<-hla,<-eO a];exact (List.dropWhile_sublist _).length_le
 have hl8:lb.length<=9:=by rw [<-hlb,<-eO b];exact (List.dropWhile_sublist _).length_le
 have hz1:¬ 9223372036854775807<1+lb.length:=by omega
 have hz2:¬ 9223372036854775807<la.length+(1+lb.length):=by omega
 obtain ⟨u1,u2,rfl,h1,h2⟩:=hv;obtain ⟨a1,c1,rfl⟩:=h1.shape;obtain ⟨a2,c2,rfl⟩:=h2.shape;generalize (aj q).num.length=n1 at *;generalize (aj q).den.length=n2 at *;generalize (aj q).neg=b0 at *;clear h1 h2 hp hq hd ha0 ha9 hb1 hb9 hla hlb hna hnb hs hl9 hl8;go_enter Tryz.func44,Tryz.ntmps44
 go_wp2_with (first
  | (go_at_call 62;refine (HPA.out _ ((af.refl w).alloc _)).mono ?_;rintro e w2 ⟨⟨u1,u2,rfl,hu1,hu2⟩,hk2⟩;have HU1:=ae hu1;have HU2:=ae hu2;have HK2:=ae (((af.refl w).alloc _).trans hk2);clear hu1 hu2 hk2)
  | (go_at_call 92;(with_reducible refine (HTA.out _ _ HU1.out).mono ?_);rintro e w3 ⟨rfl,hk3⟩;have HU3:=ae (HU2.out.kept hk3);have HK3:=ae (HK2.out.trans hk3);clear hk3)
  | (go_at_call 93;refine (gF _).mono ?_;rintro e w4 ⟨⟨u4,rfl,hu4⟩,hk4⟩;have HU4:=ae hu4;have HU5:=ae (HU3.out.kept hk4);have HK4:=ae (HK3.out.trans hk4);clear hu4 hk4)
  | (go_at_call 69;refine (HCM.out _ _ _ HU5.out HU4.out).mono ?_;rintro e w5 ⟨rfl,hk5⟩;have HU6:=ae (HU5.out.kept hk5);have HK5:=ae (HK4.out.trans hk5);clear hk5)
  | (go_at_call 92;refine (HTB.out _ _ HU6.out).mono ?_;rintro e w6 ⟨rfl,hk6⟩;have HK6:=ae (HK5.out.trans hk6);clear hk6))
 go_ret;exact ⟨by rw [HS.out];rfl,HK6.out⟩
theorem kf (n d:Nat) (w:World) (hn:n<9223372036854775808) (hd:d<9223372036854775808) (hd0:d≠0):Calls Tryz.prog 85 #[.int .i64 n,.int .i64 d] w fun e w'=>(∃ v',e=.returned (.tuple #[v',.nilIface])/\RatAt w' v' (aj (mkRat n d)))/\af w w':=by
 have HS1:Hid (∀ W,Calls Tryz.prog 142 #[.int .i64 n] W fun e w'=>(∃ v',e=.returned v'/\ah w' v' (nw n))/\af W w'):=ae fun W=>by have h:=oH n W (by omega) (by omega);rw [Int.natAbs_natCast] at h;exact h
 have HS2:Hid (∀ W,Calls Tryz.prog 142 #[.int .i64 d] W fun e w'=>(∃ v',e=.returned v'/\ah w' v' (nw d))/\af W w'):=ae fun W=>by have h:=oH d W (by omega) (by omega);rw [Int.natAbs_natCast] at h;exact h
 obtain ⟨R,hR⟩:∃ R,R=aj (mkRat n d):=⟨_,rfl⟩
 have HFO:Hid (∀ W u1 u2,ah W u1 (nw n)->ah W u2 (nw d)->Calls Tryz.prog 141 #[.bool false,u1,u2] W fun e w'=>(∃ v,e=.returned v/\RatAt w' v R)/\af W w'):=ae fun W u1 u2 k1 k2=>by
  have hl1:(nw n).length<=2:=aL.2 (by rw [show (4294967296:Nat)^2=18446744073709551616 by rfl];omega);have hl2:(nw d).length<=2:=aL.2 (by rw [show (4294967296:Nat)^2=18446744073709551616 by rfl];omega);have h:=dZ false u1 u2 _ _ W k1 k2 (by omega) (by omega) (by rw [am];exact hd0);rw [am,am,ci _ _ _ hd0,show sg false n=(n:Int) from rfl,<-hR] at h;exact h
 rw [<-hR];generalize nw n=X at *;generalize nw d=Y at *;obtain ⟨w2,hw2⟩:∃ w2,w2=w.alloc (.cells #[.bool false,.slice none 0 0,.slice none 0 0] 29):=⟨_,rfl⟩;have HR:Hid (ai w2 w.heap.size 29 [.bool false,.slice none 0 0,.slice none 0 0]):=ae (by rw [hw2];exact ai.made w #[.bool false,.slice none 0 0,.slice none 0 0] 29);have HFX:Hid (a_ w2 w.heap.size [.bool false,.slice none 0 0,.slice none 0 0]):=ae (by rw [hw2];exact a_.made w #[.bool false,.slice none 0 0,.slice none 0 0] 29);have HK0:Hid (af w w2):=ae (by rw [hw2];exact (af.refl w).alloc _);have HW2:=ae hw2;have hn0:¬ (n:Int)<0:=by omega
 have hdn:¬ (d:Int)<0:=by omega
 have hdz:((d:Int) == 0)=false:=by simp;omega
 have hdz2:¬ (d:Int)=0:=by omega
 clear hw2 hR hn hd hd0;go_enter Tryz.func85,Tryz.ntmps85;go_wp2_with fail;rw [<-HW2.out];refine (HS1.out _).mono ?_;rintro e w3 ⟨⟨v3,rfl,hv3⟩,hk3⟩;have HV3:=ae hv3;have HR3:=ae (HR.out.kept hk3);have HF3:=ae (HFX.out.kept hk3);have HK3:=ae (HK0.out.trans hk3);clear hv3 hk3;go_wp2_with fail;refine (HS2.out _).mono ?_;rintro e w4 ⟨⟨v4,rfl,hv4⟩,hk4⟩;have HV4:=ae hv4;have HV3':=ae (HV3.out.kept hk4);have HR4:=ae (HR3.out.kept hk4);have HF4:=ae (HF3.out.kept hk4);have HK4:=ae (HK3.out.trans hk4);clear hv4 hk4;go_wp2_with fail;refine (HFO.out _ _ _ HV3'.out HV4.out).mono ?_;rintro e w10 ⟨⟨v10,rfl,hv10⟩,hk10⟩;have hr10:=HR4.out.kept hk10;have HF10:=ae (HF4.out.kept hk10);have HK10:=ae (HK4.out.trans hk10);obtain ⟨u7,u8,rfl,k7,k8⟩:=hv10;obtain ⟨a7,c7,rfl⟩:=k7.shape;obtain ⟨a8,c8,rfl⟩:=k8.shape;obtain ⟨y0,y1,y2,hra⟩:=az hr10 HF10.out k7 k8;have g0:=hr10.cell (i:=0) (by simp);have g1:=hr10.cell (i:=1) (by simp);have g2:=hr10.cell (i:=2) (by simp);have f0:=hr10.free 0;have f1:=hr10.free 1;have f2:=hr10.free 2;have HRA:=ae hra;have Y0:=ae y0;have Y1:=ae y1;have Y2:=ae y2;clear hra y0 y1 y2 k7 k8 hr10 hk10;generalize R.num.length=n7 at *;generalize R.den.length=n8 at *;go_wp2;refine bodyPost_ret (v:=.tuple #[.agg #[.bool R.neg,.slice a7 n7 c7,.slice a8 n8 c8],.nilIface]) ?_ rfl ⟨⟨_,rfl,HRA.out⟩,?_⟩
 ·simp [results,Tryz.results85,go_sem,Y0.out,Y1.out,Y2.out]
 ·exact ((HK10.out.store (by omega) _ _).store (by omega) _ _).store (by omega) _ _
def lP (L:List (Nat × Nat)) (ps:List Rw):Nat × Rat :=
 if L.any (fun c=>decide ((ps.length:Int)<=mt (c.1 ||| c.2)))=true then (11,0) else if eS ps=true then (3,0) else (0,bd ps L L.length)
def prbD (L0:List (Int × Int)) (ps:List Rw):Nat × Rat:=if fq L0≠0 then (fq L0,0) else lP (L0.map jl) ps
theorem lQ {q:Rat} (h0:0<=q) (h1:q<=1):fi (aj q)=true:=by
 rw [qe (dc q),iv,aA]
 have s1:0<=eF q:=by
  unfold eF;by_cases h:q=0
  ·rw [if_pos h];decide
  ·rw [if_neg h,if_neg (by grind)];decide
 have s2:eF (q - ((1:Int):Rat))<=0:=by
  have e:((1:Int):Rat)=1:=rfl;rw [e];unfold eF;by_cases h:q - 1=0
  ·rw [if_pos h];decide
  ·rw [if_neg h,if_pos (by grind)];decide
 rw [decide_eq_true s1,decide_eq_true s2];rfl
theorem iw {q:Rat} (h1:q.num.natAbs<4294967296) (h2:q.den<4294967296):(aj q).Short 1:=by
 unfold aj;split
 ·exact ⟨Nat.zero_le _,Nat.zero_le _⟩
 ·exact ⟨aL.2 (by simpa using h1),aL.2 (by simpa using h2)⟩
def di:List Rw:=[aj (mkRat 1 10),aj (mkRat 1 5),aj (mkRat 1 4)]
theorem po:∀ r∈di,r.Short 1:=fun r hr=>by
 simp only [di,List.mem_cons,List.not_mem_nil,or_false] at hr;rcases hr with rfl | rfl | rfl
 ·exact iw (by decide +kernel) (by decide +kernel)
 ·exact iw (by decide +kernel) (by decide +kernel)
 ·exact iw (by decide +kernel) (by decide +kernel)
theorem tU:∀ r∈di,r.Short 3:=fun r hr=>⟨Nat.le_trans (po r hr).1 (by omega),Nat.le_trans (po r hr).2 (by omega)⟩
theorem yy:eS di=false:=by
 unfold eS;rw [List.any_eq_false];intro r hr;simp only [di,List.mem_cons,List.not_mem_nil,or_false] at hr;rcases hr with rfl | rfl | rfl
 ·rw [lQ (by decide +kernel) (by decide +kernel)];simp
 ·rw [lQ (by decide +kernel) (by decide +kernel)];simp
 ·rw [lQ (by decide +kernel) (by decide +kernel)];simp
theorem AA:dQ di 0=mkRat 1 10:=by show al (aj (mkRat 1 10))=_;exact aA _
theorem AB:dQ di 1=mkRat 1 5:=by show al (aj (mkRat 1 5))=_;exact aA _
theorem AC:dQ di 2=mkRat 1 4:=by show al (aj (mkRat 1 4))=_;exact aA _
set_option linter.unusedSimpArgs false in
theorem zN:dG [1,6]=0:=by
 obtain ⟨h0,h1,h2,h3,h4,h5,h6,h7⟩:=Bm;simp +decide [dG,dh,z_,bz,aR,kM,eB,bq,jR,aN,h0,h1,h2,h3,h4,h5,h6,h7]
theorem vP:cO [1,6]=some [(1,0),(6,1)]:=by decide
theorem yw:ce [1,6]=(0,[(1,0),(6,1)]):=by
 unfold ce;rw [if_neg (by rw [zN];simp),show bz [1,6]=[1,6] from rfl,vP]
theorem zQ:bd di [(1,0),(6,1)] 2=mkRat 29 200:=by
 have e:bd di [(1,0),(6,1)] 2=(0+wQ (dQ di) (1,0) 3)+wQ (dQ di) (6,1) 3:=rfl
 have b1:wQ (dQ di) (1,0) 3=dQ di 0:=by
  show ((((((1:Rat)*if (1:Nat).testBit 0=true then dQ di 0 else 1)*if (0:Nat).testBit 0=true then 1 - dQ di 0 else 1)*if (1:Nat).testBit 1=true then dQ di 1 else 1)*if (0:Nat).testBit 1=true then 1 - dQ di 1 else 1)*if (1:Nat).testBit 2=true then dQ di 2 else 1)*(if (0:Nat).testBit 2=true then 1 - dQ di 2 else 1)=_;rw [if_pos (by decide),if_neg (by decide),if_neg (by decide),if_neg (by decide),if_neg (by decide),if_neg (by decide)]
  grind
 have b2:wQ (dQ di) (6,1) 3=(1 - dQ di 0)*(dQ di 1*dQ di 2):=by
  show ((((((1:Rat)*if (6:Nat).testBit 0=true then dQ di 0 else 1)*if (1:Nat).testBit 0=true then 1 - dQ di 0 else 1)*if (6:Nat).testBit 1=true then dQ di 1 else 1)*if (1:Nat).testBit 1=true then 1 - dQ di 1 else 1)*if (6:Nat).testBit 2=true then dQ di 2 else 1)*(if (1:Nat).testBit 2=true then 1 - dQ di 2 else 1)=_;rw [if_neg (by decide),if_pos (by decide),if_pos (by decide),if_neg (by decide),if_pos (by decide),if_neg (by decide)]
  grind
 rw [e,b1,b2,AA,AB,AC];decide +kernel
theorem Ag:prbD (aP [(1,0),(6,1)]) di=(0,mkRat 29 200):=by
 have h1:fq (aP [(1,0),(6,1)])=0:=by decide
 have h2:(aP [(1,0),(6,1)]).map jl=[(1,0),(6,1)]:=rfl;unfold prbD;rw [if_neg (by rw [h1];simp),h2];unfold lP;rw [if_neg (by decide +kernel),yy,if_neg (by simp),show ([(1,0),(6,1)]:List (Nat × Nat)).length=2 from rfl,zQ]
theorem tQ (cv v:Value) (L0:List (Int × Int)) (ps:List Rw) (w:World) (hc:aY w cv L0) (hv:RatsAt w v ps) (hp3:∀ r∈ps,r.Short 3) (hp30:ps.length<=30) :
  Calls Tryz.prog 86 #[cv,v] w fun e w'=>(∃ v',e=.returned (.tuple #[v',bI (prbD L0 ps).1])/\RatAt w' v' (aj (prbD L0 ps).2))/\af w w':=by
 have HCH:Hid (∀ W,af w W->Calls Tryz.prog 143 #[cv] W fun e w'=>e=.returned (bI (fq L0))/\af W w'):=ae fun W h=>ro cv L0 W (hc.kept h)
 obtain ⟨QQ,hQQ⟩:∃ QQ,QQ=prbD L0 ps:=⟨_,rfl⟩;have hQ0:QQ=if fq L0≠0 then (fq L0,0) else lP (L0.map jl) ps:=hQQ
 rw [<-hQQ];obtain ⟨Qn,Qr⟩:=QQ;simp only;have HGR:Hid (∀ (s:Nat) (W:World),s<16777216->Calls Tryz.prog 95 #[.int .i64 s] W fun e w'=>e=.returned (.int .i64 (mt s))/\af W w'):=ae fun s W hs=>(tY s hs W).mono fun _ _ ⟨h1,h2⟩=>⟨h1,by rw [h2];exact af.refl _⟩
 have HBA:=ae (fun W (h:af w W)=>pj v ps W (hv.kept h) (fun r hr=>⟨Nat.le_trans (hp3 r hr).1 (by omega),Nat.le_trans (hp3 r hr).2 (by omega)⟩));have HV0:=ae hc;have HPV0:=ae hv;have H3:=ae hp3;obtain ⟨ca,cc,rfl⟩:=hc.shape;obtain ⟨pa,pc,rfl⟩:=hv.shape;obtain ⟨q1,hq1⟩:∃ q1,q1=fq L0:=⟨_,rfl⟩;rw [<-hq1] at HCH hQ0;have HQ0:=ae hQ0;have HQ1:=ae hq1;obtain ⟨w2,hw2⟩:∃ w2,w2=w.alloc (.cells #[.bool false,.slice none 0 0,.slice none 0 0] 29):=⟨_,rfl⟩;have HR2:Hid (ai w2 w.heap.size 29 [.bool false,.slice none 0 0,.slice none 0 0]):=ae (by rw [hw2];exact ai.made w #[.bool false,.slice none 0 0,.slice none 0 0] 29);have HF2:Hid (a_ w2 w.heap.size [.bool false,.slice none 0 0,.slice none 0 0]):=ae (by rw [hw2];exact a_.made w #[.bool false,.slice none 0 0,.slice none 0 0] 29);have HK2:Hid (af w w2):=ae (by rw [hw2];exact (af.refl _).alloc _);have HW2:=ae hw2;clear hc hv hp3 hw2 hQQ hQ0 hq1;by_cases h1:q1=0
 ·subst h1;rw [dd] at HCH;obtain ⟨L,hL⟩:∃ L,L=L0.map jl:=⟨_,rfl⟩
  have h9:L0.length<=1024/\cS L0=0:=by
   have h:=HQ1.out;unfold fq at h;split at h
   ·cases h
   ·split at h
    ·exact absurd h.symm (by assumption)
    ·rename_i h2 h3;exact ⟨by omega,Classical.byContradiction h3⟩
  have hL0:L0=aP L:=by
   rw [hL];unfold aP;rw [List.map_map];refine (List.map_id L0).symm.trans (List.map_congr_left fun c hc=>?_);exact (dV (dt h9.2 c hc)).2
  have HB:Hid (∀ c∈L,c.1<16777216/\c.2<16777216):=ae fun c hc=>by
   rw [hL] at hc;obtain ⟨d,hd,rfl⟩:=List.mem_map.1 hc;have:=(dV (dt h9.2 d hd)).1;exact ⟨this.1,this.2.1⟩
  have HQA:Hid ((Qn,Qr)=lP L ps):=ae (by have h:=HQ0.out;rw [if_neg (by omega),<-hL] at h;exact h);have hlen:L.length<=1024:=by rw [hL,List.length_map];exact h9.1
  have HV:Hid (aY w (.slice ca L0.length cc) (aP L)):=ae (by rw [<-hL0];exact HV0.out);obtain ⟨m,hm⟩:∃ m,m=L0.length:=⟨_,rfl⟩;have hm2:m=L.length:=by rw [hm,hL,List.length_map]
  rw [<-hm] at HV HCH⊢;have HM:=ae hm2;obtain ⟨pn,hpn⟩:∃ pn,pn=ps.length:=⟨_,rfl⟩;have HPV:Hid (RatsAt w (.slice pa pn pc) ps):=ae (by rw [hpn];exact HPV0.out);rw [<-hpn] at HBA⊢;have HPN:=ae hpn;have hm9:m<=1024:=by omega
  clear h9 hL0 hlen hm hm2 hpn hL HQ0 HQ1 HV0 HPV0;go_enter Tryz.func86,Tryz.ntmps86;go_wp2_with fail;rw [<-HW2.out];refine (HCH.out _ HK2.out).mono ?_;rintro e w4 ⟨rfl,hk4⟩;have HR4:=ae (HR2.out.kept hk4);have HF4:=ae (HF2.out.kept hk4);have HK4:=ae (HK2.out.trans hk4);clear hk4;go_wp2_with fail;go_loopg [17] m (fun kx s1 wr=>∃ k:Nat,k<=m/\s1=.int .i64 k/\m - k<=kx/\Hid (∀ c∈L.take k,mt (c.1 ||| c.2)<(pn:Int))/\Hid (af w4 wr))
  case atStart=>exact ⟨0,Nat.zero_le _,rfl,by omega,ae (by simp),ae (af.refl _)⟩
  case round =>
   obtain ⟨k,hk,rfl,hkx,HG,HKr⟩:=hrel;have HKw:=ae (HK4.out.trans HKr.out);by_cases hlt:k<m
   ·have hkl:k<L.length:=by have:=HM.out;omega
    obtain ⟨b,o,rfl,g1,g2⟩:=HV.out.get k (by rw [aK];exact hkl);rw [eP hkl] at g1 g2;obtain ⟨y,hy⟩:∃ y,y=L[k].1:=⟨_,rfl⟩;obtain ⟨n,hn⟩:∃ n,n=L[k].2:=⟨_,rfl⟩;have eL:L[k]=(y,n):=by rw [hy,hn]
    have hbd:=HB.out L[k] (List.getElem_mem hkl);rw [eL] at g1 g2 hbd;have x1:=HKw.out.cell g1;have x2:=HKw.out.cell g2;rw [<-Nat.add_assoc] at x2;simp only [oQ] at x1 x2;have HEL:=ae eL;have p1:=gC y n (by omega) (by omega);obtain ⟨z,hz⟩:∃ z,z=y ||| n:=⟨_,rfl⟩
    have hz24:z<16777216:=by rw [hz];exact tk hbd.1 hbd.2
    rw [<-hz] at p1;have HZ:=ae hz;have HGC:=ae (fun W=>HGR.out z W hz24);have hki:(k:Int)<(m:Int):=by omega
    obtain ⟨g,hg⟩:∃ g,g=mt z:=⟨_,rfl⟩;have HGG:=ae hg;rw [<-hg] at HGC;obtain ⟨wo,rfl⟩:∃ wo:World,wo=wr:=⟨_,rfl⟩;clear g1 g2 hy hn eL hbd hz hz24 hg;by_cases hge:(pn:Int)<=g
    ·have HQV:Hid (Qn=11/\Qr=0):=ae (by
      have h:=HQA.out;unfold lP at h;rw [if_pos (List.any_eq_true.2 ⟨L[k],List.getElem_mem _,decide_eq_true (by rw [HEL.out,<-HPN.out];show (pn:Int)<=mt (y ||| n);rw [<-HZ.out,<-HGG.out];exact hge)⟩)] at h;injection h with h1 h2
      exact ⟨h1,h2⟩)
     have dge:decide ((pn:Int)<=g)=true:=decide_eq_true hge;go_wp2_with (go_at_call 95;refine (HGC.out _).mono ?_;rintro e w5 ⟨rfl,hk5⟩;have HRW:=ae (HR4.out.kept (HKr.out.trans (((af.refl _).alloc _).trans hk5)));have HFW:=ae (HF4.out.kept (HKr.out.trans (((af.refl _).alloc _).trans hk5)));have HK5:=ae (HKw.out.trans (((af.refl _).alloc _).trans hk5));clear hk5;have G0:=HRW.out.cell (i:=0) (by simp);have G1:=HRW.out.cell (i:=1) (by simp);have G2:=HRW.out.cell (i:=2) (by simp);have F0:=HRW.out.free 0;have F1:=HRW.out.free 1;have F2:=HRW.out.free 2;have LT:=HRW.out.lt);obtain ⟨y0,y1,y2,hra⟩:=az (r:=⟨false,[],[]⟩) HRW.out HFW.out (ah.nil _) (ah.nil _);have Y:=ae (And.intro y0 (And.intro y1 y2));have HRA:=ae hra;clear y0 y1 y2 hra;refine bodyPost_ret (v:=.tuple #[.agg #[.bool false,.slice none 0 0,.slice none 0 0],bI 11]) ?_ rfl ⟨⟨_,by rw [HQV.out.1],by rw [HQV.out.2,bF];exact HRA.out⟩,?_⟩
     ·simp [results,Tryz.results86,go_sem,Y.out.1,Y.out.2.1,Y.out.2.2,bI]
     ·exact ((HK5.out.store (by omega) _ _).store (by omega) _ _).store (by omega) _ _
    ·have hgl:¬ (pn:Int)<=g:=hge;have dgl:decide ((pn:Int)<=g)=false:=decide_eq_false hge;go_wp2_with (go_at_call 95;refine (HGC.out _).mono ?_;rintro e w5 ⟨rfl,hk5⟩;have HK5:=ae (HKr.out.trans (((af.refl _).alloc _).trans hk5));clear hk5);go_roundg (m - (k+1))
     case measure=>omega
     case rel=>exact ⟨k+1,by omega,by go_num,Nat.le_refl _,ae (fun c hc=>by
      rw [List.take_succ_eq_append_getElem hkl] at hc;rcases List.mem_append.1 hc with hc | hc
      ·exact HG.out c hc
      ·simp at hc;rw [hc,HEL.out];show mt (y ||| n)<_;rw [<-HZ.out,<-HGG.out];omega),HK5⟩
   ·have hki:¬ (k:Int)<(m:Int):=by omega
    have HGA:Hid (∀ c∈L,mt (c.1 ||| c.2)<(pn:Int)):=ae (by have h:=HG.out;rwa [List.take_of_length_le (by have:=HM.out;omega)] at h)
    have HQB:Hid ((Qn,Qr)=if eS ps=true then (3,0) else (0,bd ps L L.length)):=ae (by
     have h:=HQA.out;unfold lP at h
     rw [if_neg (by
      intro h2;obtain ⟨c,hc,h3⟩:=List.any_eq_true.1 h2;have:=HGA.out c hc;have:=of_decide_eq_true h3;have:=HPN.out;omega)] at h
     exact h)
    cases hbad:eS ps with
    | true =>
     rw [hbad] at HBA HQB
     have HQV:Hid (Qn=3/\Qr=0):=ae (by
      have h:=HQB.out;rw [if_pos rfl] at h;injection h with h1 h2
      exact ⟨h1,h2⟩)
     clear hbad;go_wp2_with fail;refine (HBA.out _ HKw.out).mono ?_;rintro e w5 ⟨rfl,hk5⟩;have HRW:=ae (HR4.out.kept (HKr.out.trans hk5));have HFW:=ae (HF4.out.kept (HKr.out.trans hk5));have HK5:=ae (HKw.out.trans hk5);clear hk5;have hr5:=HRW.out;obtain ⟨y0,y1,y2,hra⟩:=az (r:=⟨false,[],[]⟩) hr5 HFW.out (ah.nil _) (ah.nil _);have Y:=ae (And.intro y0 (And.intro y1 y2));have HRA:=ae hra;have g0:=hr5.cell (i:=0) (by simp);have g1:=hr5.cell (i:=1) (by simp);have g2:=hr5.cell (i:=2) (by simp);have f0:=hr5.free 0;have f1:=hr5.free 1;have f2:=hr5.free 2;have hlt5:=hr5.lt;clear hr5 y0 y1 y2 hra;go_wp2;refine bodyPost_ret (v:=.tuple #[.agg #[.bool false,.slice none 0 0,.slice none 0 0],bI 3]) ?_ rfl ⟨⟨_,by rw [HQV.out.1],by rw [HQV.out.2,bF];exact HRA.out⟩,?_⟩
     ·simp [results,Tryz.results86,go_sem,Y.out.1,Y.out.2.1,Y.out.2.2,bI]
     ·exact ((HK5.out.store (by omega) _ _).store (by omega) _ _).store (by omega) _ _
    | false =>
     rw [hbad] at HBA HQB
     have HQV:Hid (Qn=0/\Qr=bd ps L L.length):=ae (by
      have h:=HQB.out;rw [if_neg (by simp)] at h;injection h with h1 h2
      exact ⟨h1,h2⟩)
     clear hbad;go_wp2_with fail;refine (HBA.out _ HKw.out).mono ?_;rintro e w5 ⟨rfl,hk5⟩;have HRW:=ae (HR4.out.kept (HKr.out.trans hk5));have HFW:=ae (HF4.out.kept (HKr.out.trans hk5));have HK5:=ae (HKw.out.trans hk5);clear hk5;have HTO:=ae (fun W (h:af w W)=>lj (.slice ca m cc) (.slice pa pn pc) L ps W (HV.out.kept h) HB.out (by have:=HM.out;omega) (HPV.out.kept h) H3.out (by have:=HPN.out;omega));rw [<-HM.out] at HTO;go_wp2_with fail;refine (HTO.out _ HK5.out).mono ?_;rintro e w6 ⟨⟨v6,rfl,hv6⟩,hk6⟩;have hrr:=HRW.out.kept hk6;have HFF:=ae (HFW.out.kept hk6);have HK6:=ae (HK5.out.trans hk6);rw [HM.out,<-HQV.out.2] at hv6;obtain ⟨R,hR⟩:∃ R,R=aj Qr:=⟨_,rfl⟩;have HRR:=ae hR;rw [<-hR] at hv6;obtain ⟨u7,u8,rfl,k7,k8⟩:=hv6;obtain ⟨a5,c5,rfl⟩:=k7.shape;obtain ⟨a6,c6,rfl⟩:=k8.shape;obtain ⟨y0,y1,y2,hra⟩:=az hrr HFF.out k7 k8;have g0:=hrr.cell (i:=0) (by simp);have g1:=hrr.cell (i:=1) (by simp);have g2:=hrr.cell (i:=2) (by simp);have f0:=hrr.free 0;have f1:=hrr.free 1;have f2:=hrr.free 2;have hlt5:=hrr.lt;have HRA:=ae hra;have Y:=ae (And.intro y0 (And.intro y1 y2));clear hra y0 y1 y2 k7 k8 hrr hk6 hR;generalize R.num.length=n7 at *;generalize R.den.length=n8 at *;go_wp2;refine bodyPost_ret (v:=.tuple #[.agg #[.bool R.neg,.slice a5 n7 c5,.slice a6 n8 c6],.nilIface]) ?_ rfl ⟨⟨_,by rw [HQV.out.1];rfl,by rw [<-HRR.out];exact HRA.out⟩,?_⟩
     ·simp [results,Tryz.results86,go_sem,Y.out.1,Y.out.2.1,Y.out.2.2]
     ·exact ((HK6.out.store (by omega) _ _).store (by omega) _ _).store (by omega) _ _
 ·have HQV:Hid (Qn=q1/\Qr=0):=ae (by
   have h:=HQ0.out;rw [if_pos h1] at h;injection h with h3 h4
   exact ⟨h3,h4⟩)
  rw [bJ h1] at HCH;clear HQ0 HQ1;go_enter Tryz.func86,Tryz.ntmps86;go_wp2_with fail;rw [<-HW2.out];refine (HCH.out _ HK2.out).mono ?_;rintro e w5 ⟨rfl,hk5⟩;have HRW:=ae (HR2.out.kept hk5);have HFW:=ae (HF2.out.kept hk5);have HK5:=ae (HK2.out.trans hk5);clear hk5;have hr5:=HRW.out;obtain ⟨y0,y1,y2,hra⟩:=az (r:=⟨false,[],[]⟩) hr5 HFW.out (ah.nil _) (ah.nil _);have Y:=ae (And.intro y0 (And.intro y1 y2));have HRA:=ae hra;have g0:=hr5.cell (i:=0) (by simp);have g1:=hr5.cell (i:=1) (by simp);have g2:=hr5.cell (i:=2) (by simp);have f0:=hr5.free 0;have f1:=hr5.free 1;have f2:=hr5.free 2;have hlt5:=hr5.lt;clear hr5 y0 y1 y2 hra;go_wp2;refine bodyPost_ret (v:=.tuple #[.agg #[.bool false,.slice none 0 0,.slice none 0 0],.iface 60 (.int .i64 q1)]) ?_ rfl ⟨⟨_,by rw [HQV.out.1];rw [bJ h1],by rw [HQV.out.2,bF];exact HRA.out⟩,?_⟩
  ·simp [results,Tryz.results86,go_sem,Y.out.1,Y.out.2.1,Y.out.2.2]
  ·exact ((HK5.out.store (by omega) _ _).store (by omega) _ _).store (by omega) _ _
theorem sd (cv v:Value) (L0:List (Int × Int)) (ps:List Rw) (w:World) (hc:aY w cv L0) (hv:RatsAt w v ps) (hp3:∀ r∈ps,r.Short 3) (hp30:ps.length<=30) :
  Calls Tryz.prog 91 #[cv,v] w fun e w'=>(∃ v',e=.returned (.tuple #[v',.int .i64 ((prbD L0 ps).1:Nat)])/\RatAt w' v' (aj (prbD L0 ps).2))/\af w w':=by
 have HCH:Hid (∀ W,af w W->Calls Tryz.prog 145 #[cv] W fun e w'=>e=.returned (.int .i64 ((fq L0):Nat))/\af W w'):=ae fun W h=>ql cv L0 W (hc.kept h)
 obtain ⟨QQ,hQQ⟩:∃ QQ,QQ=prbD L0 ps:=⟨_,rfl⟩;have hQ0:QQ=if fq L0≠0 then (fq L0,0) else lP (L0.map jl) ps:=hQQ
 rw [<-hQQ];obtain ⟨Qn,Qr⟩:=QQ;simp only;have HGR:Hid (∀ (s:Nat) (W:World),s<16777216->Calls Tryz.prog 100 #[.int .i64 s] W fun e w'=>e=.returned (.int .i64 (mt s))/\af W w'):=ae fun s W hs=>pt s hs W
 have HBA:=ae (fun W (h:af w W)=>lR v ps W (hv.kept h) (fun r hr=>⟨Nat.le_trans (hp3 r hr).1 (by omega),Nat.le_trans (hp3 r hr).2 (by omega)⟩));have HV0:=ae hc;have HPV0:=ae hv;have H3:=ae hp3;obtain ⟨ca,cc,rfl⟩:=hc.shape;obtain ⟨pa,pc,rfl⟩:=hv.shape;obtain ⟨q1,hq1⟩:∃ q1,q1=fq L0:=⟨_,rfl⟩;rw [<-hq1] at HCH hQ0;have HQ0:=ae hQ0;have HQ1:=ae hq1;obtain ⟨w2,hw2⟩:∃ w2,w2=w.alloc (.cells #[.bool false,.slice none 0 0,.slice none 0 0] 29):=⟨_,rfl⟩;have HR2:Hid (ai w2 w.heap.size 29 [.bool false,.slice none 0 0,.slice none 0 0]):=ae (by rw [hw2];exact ai.made w #[.bool false,.slice none 0 0,.slice none 0 0] 29);have HF2:Hid (a_ w2 w.heap.size [.bool false,.slice none 0 0,.slice none 0 0]):=ae (by rw [hw2];exact a_.made w #[.bool false,.slice none 0 0,.slice none 0 0] 29);have HK2:Hid (af w w2):=ae (by rw [hw2];exact (af.refl _).alloc _);have HW2:=ae hw2;clear hc hv hp3 hw2 hQQ hQ0 hq1;by_cases h1:q1=0
 ·subst h1;obtain ⟨L,hL⟩:∃ L,L=L0.map jl:=⟨_,rfl⟩
  have h9:L0.length<=1024/\cS L0=0:=by
   have h:=HQ1.out;unfold fq at h;split at h
   ·cases h
   ·split at h
    ·exact absurd h.symm (by assumption)
    ·rename_i h2 h3;exact ⟨by omega,Classical.byContradiction h3⟩
  have hL0:L0=aP L:=by
   rw [hL];unfold aP;rw [List.map_map];refine (List.map_id L0).symm.trans (List.map_congr_left fun c hc=>?_);exact (dV (dt h9.2 c hc)).2
  have HB:Hid (∀ c∈L,c.1<16777216/\c.2<16777216):=ae fun c hc=>by
   rw [hL] at hc;obtain ⟨d,hd,rfl⟩:=List.mem_map.1 hc;have:=(dV (dt h9.2 d hd)).1;exact ⟨this.1,this.2.1⟩
  have HQA:Hid ((Qn,Qr)=lP L ps):=ae (by have h:=HQ0.out;rw [if_neg (by omega),<-hL] at h;exact h);have hlen:L.length<=1024:=by rw [hL,List.length_map];exact h9.1
  have HV:Hid (aY w (.slice ca L0.length cc) (aP L)):=ae (by rw [<-hL0];exact HV0.out);obtain ⟨m,hm⟩:∃ m,m=L0.length:=⟨_,rfl⟩;have hm2:m=L.length:=by rw [hm,hL,List.length_map]
  rw [<-hm] at HV HCH⊢;have HM:=ae hm2;obtain ⟨pn,hpn⟩:∃ pn,pn=ps.length:=⟨_,rfl⟩;have HPV:Hid (RatsAt w (.slice pa pn pc) ps):=ae (by rw [hpn];exact HPV0.out);rw [<-hpn] at HBA⊢;have HPN:=ae hpn;have hm9:m<=1024:=by omega
  clear h9 hL0 hlen hm hm2 hpn hL HQ0 HQ1 HV0 HPV0;go_enter Tryz.func91,Tryz.ntmps91;go_wp2_with fail;rw [<-HW2.out];refine (HCH.out _ HK2.out).mono ?_;rintro e w4 ⟨rfl,hk4⟩;have HR4:=ae (HR2.out.kept hk4);have HF4:=ae (HF2.out.kept hk4);have HK4:=ae (HK2.out.trans hk4);clear hk4;go_wp2_with fail;go_loopg [20] m (fun kx s1 wr=>∃ k:Nat,k<=m/\s1=.int .i64 k/\m - k<=kx/\Hid (∀ c∈L.take k,mt (c.1 ||| c.2)<(pn:Int))/\Hid (af w4 wr))
  case atStart=>exact ⟨0,Nat.zero_le _,rfl,by omega,ae (by simp),ae (af.refl _)⟩
  case round =>
   obtain ⟨k,hk,rfl,hkx,HG,HKr⟩:=hrel;have HKw:=ae (HK4.out.trans HKr.out);by_cases hlt:k<m
   ·have hkl:k<L.length:=by have:=HM.out;omega
    obtain ⟨b,o,rfl,g1,g2⟩:=HV.out.get k (by rw [aK];exact hkl);rw [eP hkl] at g1 g2;obtain ⟨y,hy⟩:∃ y,y=L[k].1:=⟨_,rfl⟩;obtain ⟨n,hn⟩:∃ n,n=L[k].2:=⟨_,rfl⟩;have eL:L[k]=(y,n):=by rw [hy,hn]
    have hbd:=HB.out L[k] (List.getElem_mem hkl);rw [eL] at g1 g2 hbd;have x1:=HKw.out.cell g1;have x2:=HKw.out.cell g2;rw [<-Nat.add_assoc] at x2;simp only [oQ] at x1 x2;have HEL:=ae eL;have p1:=gC y n (by omega) (by omega);obtain ⟨z,hz⟩:∃ z,z=y ||| n:=⟨_,rfl⟩
    have hz24:z<16777216:=by rw [hz];exact tk hbd.1 hbd.2
    rw [<-hz] at p1;have HZ:=ae hz;have HGC:=ae (fun W=>HGR.out z W hz24);have hki:(k:Int)<(m:Int):=by omega
    obtain ⟨g,hg⟩:∃ g,g=mt z:=⟨_,rfl⟩;have HGG:=ae hg;rw [<-hg] at HGC;obtain ⟨wo,rfl⟩:∃ wo:World,wo=wr:=⟨_,rfl⟩;clear g1 g2 hy hn eL hbd hz hz24 hg;by_cases hge:(pn:Int)<=g
    ·have HQV:Hid (Qn=11/\Qr=0):=ae (by
      have h:=HQA.out;unfold lP at h;rw [if_pos (List.any_eq_true.2 ⟨L[k],List.getElem_mem _,decide_eq_true (by rw [HEL.out,<-HPN.out];show (pn:Int)<=mt (y ||| n);rw [<-HZ.out,<-HGG.out];exact hge)⟩)] at h;injection h with h1 h2
      exact ⟨h1,h2⟩)
     have dge:decide ((pn:Int)<=g)=true:=decide_eq_true hge;go_wp2_with (go_at_call 100;refine (HGC.out _).mono ?_;rintro e w5 ⟨rfl,hk5⟩;have HRW:=ae (HR4.out.kept (HKr.out.trans (((af.refl _).alloc _).trans hk5)));have HFW:=ae (HF4.out.kept (HKr.out.trans (((af.refl _).alloc _).trans hk5)));have HK5:=ae (HKw.out.trans (((af.refl _).alloc _).trans hk5));clear hk5;have G0:=HRW.out.cell (i:=0) (by simp);have G1:=HRW.out.cell (i:=1) (by simp);have G2:=HRW.out.cell (i:=2) (by simp);have F0:=HRW.out.free 0;have F1:=HRW.out.free 1;have F2:=HRW.out.free 2;have LT:=HRW.out.lt);obtain ⟨y0,y1,y2,hra⟩:=az (r:=⟨false,[],[]⟩) HRW.out HFW.out (ah.nil _) (ah.nil _);have Y:=ae (And.intro y0 (And.intro y1 y2));have HRA:=ae hra;clear y0 y1 y2 hra;refine bodyPost_ret (v:=.tuple #[.agg #[.bool false,.slice none 0 0,.slice none 0 0],.int .i64 11]) ?_ rfl ⟨⟨_,by rw [HQV.out.1];rfl,by rw [HQV.out.2,bF];exact HRA.out⟩,?_⟩
     ·simp [results,Tryz.results91,go_sem,Y.out.1,Y.out.2.1,Y.out.2.2]
     ·exact ((HK5.out.store (by omega) _ _).store (by omega) _ _).store (by omega) _ _
    ·have hgl:¬ (pn:Int)<=g:=hge;have dgl:decide ((pn:Int)<=g)=false:=decide_eq_false hge;go_wp2_with (go_at_call 100;refine (HGC.out _).mono ?_;rintro e w5 ⟨rfl,hk5⟩;have HK5:=ae (HKr.out.trans (((af.refl _).alloc _).trans hk5));clear hk5);go_roundg (m - (k+1))
     case measure=>omega
     case rel=>exact ⟨k+1,by omega,by go_num,Nat.le_refl _,ae (fun c hc=>by
      rw [List.take_succ_eq_append_getElem hkl] at hc;rcases List.mem_append.1 hc with hc | hc
      ·exact HG.out c hc
      ·simp at hc;rw [hc,HEL.out];show mt (y ||| n)<_;rw [<-HZ.out,<-HGG.out];omega),HK5⟩
   ·have hki:¬ (k:Int)<(m:Int):=by omega
    have HGA:Hid (∀ c∈L,mt (c.1 ||| c.2)<(pn:Int)):=ae (by have h:=HG.out;rwa [List.take_of_length_le (by have:=HM.out;omega)] at h)
    have HQB:Hid ((Qn,Qr)=if eS ps=true then (3,0) else (0,bd ps L L.length)):=ae (by
     have h:=HQA.out;unfold lP at h
     rw [if_neg (by
      intro h2;obtain ⟨c,hc,h3⟩:=List.any_eq_true.1 h2;have:=HGA.out c hc;have:=of_decide_eq_true h3;have:=HPN.out;omega)] at h
     exact h)
    cases hbad:eS ps with
    | true =>
     rw [hbad] at HBA HQB
     have HQV:Hid (Qn=3/\Qr=0):=ae (by
      have h:=HQB.out;rw [if_pos rfl] at h;injection h with h1 h2
      exact ⟨h1,h2⟩)
     clear hbad;go_wp2_with fail;refine (HBA.out _ HKw.out).mono ?_;rintro e w5 ⟨rfl,hk5⟩;have HRW:=ae (HR4.out.kept (HKr.out.trans hk5));have HFW:=ae (HF4.out.kept (HKr.out.trans hk5));have HK5:=ae (HKw.out.trans hk5);clear hk5;have hr5:=HRW.out;obtain ⟨y0,y1,y2,hra⟩:=az (r:=⟨false,[],[]⟩) hr5 HFW.out (ah.nil _) (ah.nil _);have Y:=ae (And.intro y0 (And.intro y1 y2));have HRA:=ae hra;have g0:=hr5.cell (i:=0) (by simp);have g1:=hr5.cell (i:=1) (by simp);have g2:=hr5.cell (i:=2) (by simp);have f0:=hr5.free 0;have f1:=hr5.free 1;have f2:=hr5.free 2;have hlt5:=hr5.lt;clear hr5 y0 y1 y2 hra;go_wp2;refine bodyPost_ret (v:=.tuple #[.agg #[.bool false,.slice none 0 0,.slice none 0 0],.int .i64 3]) ?_ rfl ⟨⟨_,by rw [HQV.out.1];rfl,by rw [HQV.out.2,bF];exact HRA.out⟩,?_⟩
     ·simp [results,Tryz.results91,go_sem,Y.out.1,Y.out.2.1,Y.out.2.2]
     ·exact ((HK5.out.store (by omega) _ _).store (by omega) _ _).store (by omega) _ _
    | false =>
     rw [hbad] at HBA HQB
     have HQV:Hid (Qn=0/\Qr=bd ps L L.length):=ae (by
      have h:=HQB.out;rw [if_neg (by simp)] at h;injection h with h1 h2
      exact ⟨h1,h2⟩)
     clear hbad;go_wp2_with fail;refine (HBA.out _ HKw.out).mono ?_;rintro e w5 ⟨rfl,hk5⟩;have HRW:=ae (HR4.out.kept (HKr.out.trans hk5));have HFW:=ae (HF4.out.kept (HKr.out.trans hk5));have HK5:=ae (HKw.out.trans hk5);clear hk5
     have HPR:Hid (∀ (y n:Nat) W,y<16777216->n<16777216->af w W->Calls Tryz.prog 146 #[.agg #[.int .i64 y,.int .i64 n],.slice pa pn pc] W fun e w'=>(∃ v',e=.returned v'/\RatAt w' v' (aj (dD ps (y,n) pn)))/\af W w'):=ae fun y n W h1 h2 hk=>by
      rw [HPN.out];have hv:=HPV.out;rw [HPN.out] at hv;exact qC y n _ ps W h1 h2 (hv.kept hk) H3.out (by have:=HPN.out;omega)
     have HSS:Hid (∀ k,k<=m->(aj (bd ps L k)).Short (362*k+1)):=ae (fun k hk=>kH (l:=L) H3.out HPV.out.ok (by have:=HPN.out;omega) k (by have:=HM.out;omega));have HPS:Hid (∀ c,(aj (dD ps c pn)).Short (12*pn+1)):=ae (fun c=>by rw [HPN.out];exact gH (c:=c) H3.out HPV.out.ok ps.length (Nat.le_refl _));have hpn30:pn<=30:=by have:=HPN.out;omega
     have hm1024:m<=1024:=by omega
     obtain ⟨w8,hw8⟩:∃ w8,w8=w5.alloc (.cells #[.bool false,.slice none 0 0,.slice none 0 0] 29):=⟨_,rfl⟩;have HC:Hid (RatCell w8 w5.heap.size (aj (bd ps L 0))):=ae (by rw [hw8];exact RatCell.made (r:=⟨false,[],[]⟩) (ah.nil w5) (ah.nil w5));have HK8:Hid (af w5 w8):=ae (by rw [hw8];exact (af.refl _).alloc _);have HW8:=ae hw8;clear hw8;go_wp2_with fail;rw [<-HW8.out];go_loopg [41] m (fun kx s41 wq=>∃ j:Nat,j<=m/\s41=.int .i64 j/\m - j<=kx/\Hid (RatCell wq w5.heap.size (aj (bd ps L j)))/\Hid (af w5 wq))
     case atStart=>exact ⟨0,Nat.zero_le _,rfl,by omega,HC,HK8⟩
     case round =>
      obtain ⟨j,hj,rfl,hjx,HX,HKq⟩:=hrel;have HKw2:=ae (HK5.out.trans HKq.out);by_cases hjm:j<m
      ·have hjl:j<L.length:=by have:=HM.out;omega
       obtain ⟨b,o,rfl,g1,g2⟩:=HV.out.get j (by rw [aK];exact hjl);have eC:(aP L).getD j default=oQ L[j]:=eP hjl;rw [eC] at g1 g2;obtain ⟨y,hy⟩:∃ y,y=L[j].1:=⟨_,rfl⟩;obtain ⟨n,hn⟩:∃ n,n=L[j].2:=⟨_,rfl⟩;have eL:L[j]=(y,n):=by rw [hy,hn]
       have hbd:=HB.out L[j] (List.getElem_mem hjl);rw [eL] at g1 g2 hbd;have x1:=HKw2.out.cell g1;have x2:=HKw2.out.cell g2;rw [<-Nat.add_assoc] at x2;simp only [oQ] at x1 x2;have HP:=ae (fun W (h:af w W)=>HPR.out y n W hbd.1 hbd.2 h);have HST:Hid (aj (bd ps L (j+1))=aj (al (aj (bd ps L j))+al (aj (dD ps (y,n) pn)))):=ae (by rw [iT hjl,aA,aA,HPN.out,eL]);have hsk:=HSS.out j (by omega);have hps:=HPS.out (y,n);have hji:(j:Int)<(m:Int):=by omega
       have HAD:Hid (∀ W u1 u2,RatAt W u1 (aj (bd ps L j))->RatAt W u2 (aj (dD ps (y,n) pn))->Calls Tryz.prog 113 #[u1,u2] W fun e w'=>(∃ v',e=.returned v'/\RatAt w' v' (aj (bd ps L (j+1))))/\af W w'):=ae fun W u1 u2 k1 k2=>by
        rw [HST.out];exact jv u1 u2 _ _ W k1 k2 ⟨Nat.le_trans hsk.1 (by omega),Nat.le_trans hsk.2 (by omega)⟩ ⟨Nat.le_trans hps.1 (by omega),Nat.le_trans hps.2 (by omega)⟩
       obtain ⟨wo,rfl⟩:∃ wo:World,wo=wr:=⟨_,rfl⟩;obtain ⟨w5,hw5⟩:∃ w5,w5=wo.alloc (.cells #[.int .i64 (y:Int),.int .i64 (n:Int)] 114):=⟨_,rfl⟩;have HK5:Hid (af wo w5):=ae (by rw [hw5];exact (af.refl _).alloc _);have hq5:=ai.made wo #[.int .i64 (y:Int),.int .i64 (n:Int)] 114;rw [<-hw5] at hq5;have q0:=hq5.cell (i:=0) (by simp);have q1:=hq5.cell (i:=1) (by simp);simp only [List.getElem_cons_succ,List.getElem_cons_zero] at q0 q1;have hql:=hq5.lt;have HX5:=ae (HX.out.kept HK5.out);have HKq5:=ae (HKq.out.trans HK5.out);have HKw5:=ae (HKw2.out.trans HK5.out);obtain ⟨a5,c5,a6,c6,⟨x0,x3,x4⟩,⟨f0,f1,f2⟩,hgl,hxa⟩:=HX5.out.at;have HXA:=ae hxa;have HW5:=ae hw5;generalize (aj (bd ps L j)).neg=z3 at *;generalize (aj (bd ps L j)).num.length=z4 at *;generalize (aj (bd ps L j)).den.length=z5 at *;clear g1 g2 eC hsk hps hxa hy hn hw5 hq5;go_wp2_with fail;rw [<-HW5.out]
       go_region_with (first
        | (go_at_call 146;(with_reducible refine (HP.out _ (HKw5.out.drew)).mono ?_);rintro e w6 ⟨⟨v6,rfl,hv6⟩,hk6⟩;have hkd:=(af.refl _).drew.trans hk6;have i0:=hkd.cell x0;have i1:=hkd.cell x3;have i2:=hkd.cell x4;have HX6:=ae (HX5.out.kept hkd);have HXA6:=ae (HXA.out.kept hkd);have HK6:=ae (HKq5.out.trans hkd);have HV6:=ae hv6;clear hk6 hkd hv6)
        | (go_at_call 113;(with_reducible refine (HAD.out _ _ _ HXA6.out HV6.out).mono ?_);rintro e w7 ⟨⟨v7,rfl,hv7⟩,hk7⟩;have HX7:=ae (HX6.out.kept hk7);have HK7:=ae (HK6.out.trans hk7);obtain ⟨u7,u8,rfl,k7,k8⟩:=hv7;obtain ⟨a7,c7,rfl⟩:=k7.shape;obtain ⟨a8,c8,rfl⟩:=k8.shape;have K7:=ae k7;have K8:=ae k8;obtain ⟨_,_,_,_,⟨t0,t1,t2⟩,⟨j0,j1,j2⟩,hgl6,_⟩:=HX7.out.at;clear k7 k8 hk7))
       all_goals
        have HS:=ae (HX7.out.store K7.out K8.out);generalize (aj (bd ps L (j+1))).num.length=n7 at *;generalize (aj (bd ps L (j+1))).den.length=n8 at *;go_wp2_with fail;go_roundg (m - (j+1))
        case measure=>omega
        case rel=>exact ⟨j+1,by omega,by go_num,Nat.le_refl _,HS,ae (((HK7.out.store (Nat.le_refl _) _ _).store (Nat.le_refl _) _ _).store (Nat.le_refl _) _ _)⟩
      ·have hje:j=m:=by omega
       have hji:¬ (j:Int)<(m:Int):=by omega
       obtain ⟨R,hR⟩:∃ R,R=aj Qr:=⟨_,rfl⟩;have HRR:=ae hR;have HX2:Hid (RatCell wr w5.heap.size R):=ae (by rw [hR,HQV.out.2,<-HM.out,<-hje];exact HX.out);have hrr:=HRW.out.kept HKq.out;have HFF:=ae (HFW.out.kept HKq.out);obtain ⟨a5,c5,a6,c6,⟨x0,x1,x2⟩,_,hgl,u7,u8,e9,k7,k8⟩:=HX2.out.at;simp only [Value.agg.injEq] at e9;have e9':=congrArg Array.toList e9;simp at e9';obtain ⟨rfl,rfl⟩:=e9';obtain ⟨y0,y1,y2,hra⟩:=az hrr HFF.out k7 k8;have g0:=hrr.cell (i:=0) (by simp);have g1:=hrr.cell (i:=1) (by simp);have g2:=hrr.cell (i:=2) (by simp);have f0:=hrr.free 0;have f1:=hrr.free 1;have f2:=hrr.free 2;have hlt5:=hrr.lt;have HRA:=ae hra;have Y:=ae (And.intro y0 (And.intro y1 y2));clear hra y0 y1 y2 k7 k8 hrr e9;clear hje hR;generalize R.num.length=n7 at *;generalize R.den.length=n8 at *;go_wp2;refine bodyPost_ret (v:=.tuple #[.agg #[.bool R.neg,.slice a5 n7 c5,.slice a6 n8 c6],.int .i64 0]) ?_ rfl ⟨⟨_,by rw [HQV.out.1];rfl,by rw [<-HRR.out];exact HRA.out⟩,?_⟩
       ·simp [results,Tryz.results91,go_sem,Y.out.1,Y.out.2.1,Y.out.2.2]
       ·exact ((HKw2.out.store (by omega) _ _).store (by omega) _ _).store (by omega) _ _
 ·have HQV:Hid (Qn=q1/\Qr=0):=ae (by
   have h:=HQ0.out;rw [if_pos h1] at h;injection h with h3 h4
   exact ⟨h3,h4⟩)
  have hq0:((q1:Int) != 0)=true:=by simp;omega
  have hq1':¬ (q1:Int)=0:=by omega
  clear HQ0 HQ1;go_enter Tryz.func91,Tryz.ntmps91;go_wp2_with fail;rw [<-HW2.out];refine (HCH.out _ HK2.out).mono ?_;rintro e w5 ⟨rfl,hk5⟩;have HRW:=ae (HR2.out.kept hk5);have HFW:=ae (HF2.out.kept hk5);have HK5:=ae (HK2.out.trans hk5);clear hk5;have hr5:=HRW.out;obtain ⟨y0,y1,y2,hra⟩:=az (r:=⟨false,[],[]⟩) hr5 HFW.out (ah.nil _) (ah.nil _);have Y:=ae (And.intro y0 (And.intro y1 y2));have HRA:=ae hra;have g0:=hr5.cell (i:=0) (by simp);have g1:=hr5.cell (i:=1) (by simp);have g2:=hr5.cell (i:=2) (by simp);have f0:=hr5.free 0;have f1:=hr5.free 1;have f2:=hr5.free 2;have hlt5:=hr5.lt;clear hr5 y0 y1 y2 hra;go_wp2;refine bodyPost_ret (v:=.tuple #[.agg #[.bool false,.slice none 0 0,.slice none 0 0],.int .i64 q1]) ?_ rfl ⟨⟨_,by rw [HQV.out.1],by rw [HQV.out.2,bF];exact HRA.out⟩,?_⟩
  ·simp [results,Tryz.results91,go_sem,Y.out.1,Y.out.2.1,Y.out.2.2]
  ·exact ((HK5.out.store (by omega) _ _).store (by omega) _ _).store (by omega) _ _
theorem rY {w:World} {r1 r2 r3:Rw} {u1 v1 u2 v2 u3 v3:Value} (h1:ah w u1 r1.num) (k1:ah w v1 r1.den) (h2:ah w u2 r2.num) (k2:ah w v2 r2.den) (h3:ah w u3 r3.num) (k3:ah w v3 r3.den) :
  RatsAt (w.alloc (.cells #[.bool r1.neg,u1,v1,.bool r2.neg,u2,v2,.bool r3.neg,u3,v3] 29)) (.slice (some ⟨w.heap.size,0,none⟩) 3 3) [r1,r2,r3]:=by
 have hk:af w (w.alloc (.cells #[.bool r1.neg,u1,v1,.bool r2.neg,u2,v2,.bool r3.neg,u3,v3] 29)):=(af.refl _).alloc _;refine ⟨_,3,rfl,⟨by simp,fun h=>by cases h⟩,by simp,fun i hi=>?_⟩
 match i,hi with
 | 0,_ =>
  refine ⟨w.heap.size,0,u1,v1,rfl,fun j v hj=>?_,h1.kept hk,k1.kept hk⟩
  match j,hj with
  | 0,hj=>simp at hj;subst hj;simp
  | 1,hj=>simp at hj;subst hj;simp
  | 2,hj=>simp at hj;subst hj;simp
 | 1,_ =>
  refine ⟨w.heap.size,0,u2,v2,rfl,fun j v hj=>?_,h2.kept hk,k2.kept hk⟩
  match j,hj with
  | 0,hj=>simp at hj;subst hj;simp
  | 1,hj=>simp at hj;subst hj;simp
  | 2,hj=>simp at hj;subst hj;simp
 | 2,_ =>
  refine ⟨w.heap.size,0,u3,v3,rfl,fun j v hj=>?_,h3.kept hk,k3.kept hk⟩
  match j,hj with
  | 0,hj=>simp at hj;subst hj;simp
  | 1,hj=>simp at hj;subst hj;simp
  | 2,hj=>simp at hj;subst hj;simp
theorem yE (w:World):aq (w.alloc (.cells #[.int .i64 1,.int .i64 6] 3)) (.slice (some ⟨w.heap.size,0,none⟩) 2 2) [1,6] :=
 (ai.made w #[.int .i64 1,.int .i64 6] 3).ints (xs:=[1,6]) (c:=2) (by simp) (by simp)
theorem yn (w:World):aY (w.alloc (.cells #[.int .i64 1,.int .i64 0,.int .i64 6,.int .i64 1] 114)) (.slice (some ⟨w.heap.size,0,none⟩) 2 2) (aP [(1,0),(6,1)]):=by
 refine ⟨_,2,rfl,⟨by simp [aP],fun h=>by cases h⟩,by simp [aP],fun i hi=>?_⟩
 match i,hi with
 | 0,_ =>
  refine ⟨w.heap.size,0,rfl,fun j v hj=>?_⟩
  match j,hj with
  | 0,hj=>simp [aP,oQ,bG] at hj;subst hj;simp
  | 1,hj=>simp [aP,oQ,bG] at hj;subst hj;simp
 | 1,_ =>
  refine ⟨w.heap.size,0,rfl,fun j v hj=>?_⟩
  match j,hj with
  | 0,hj=>simp [aP,oQ,bG] at hj;subst hj;simp
  | 1,hj=>simp [aP,oQ,bG] at hj;subst hj;simp
theorem qU (w:World):Calls Tryz.prog 39 #[] w fun e w'=>e=.returned (.bool true)/\af w w':=by
 have HCU:Hid (∀ W,Calls Tryz.prog 75 #[.slice (some ⟨W.heap.size,0,none⟩) 2 2] (W.alloc (.cells #[.int .i64 1,.int .i64 6] 3)) fun e w'=>(∃ v',e=.returned (.tuple #[v',.nilIface])/\aY w' v' (aP [(1,0),(6,1)]))/\af W w'):=ae fun W=>by
  have h:=mK _ [1,6] _ (yE W);rw [yw] at h;exact h.mono fun e w' ⟨h1,h2⟩=>⟨h1,((af.refl W).alloc _).trans h2⟩
 have HM1:Hid (∀ W,Calls Tryz.prog 85 #[.int .i64 1,.int .i64 10] W fun e w'=>(∃ v',e=.returned (.tuple #[v',.nilIface])/\RatAt w' v' (aj (mkRat 1 10)))/\af W w'):=ae fun W=>kf 1 10 W (by decide) (by decide) (by decide)
 have HM2:Hid (∀ W,Calls Tryz.prog 85 #[.int .i64 1,.int .i64 5] W fun e w'=>(∃ v',e=.returned (.tuple #[v',.nilIface])/\RatAt w' v' (aj (mkRat 1 5)))/\af W w'):=ae fun W=>kf 1 5 W (by decide) (by decide) (by decide)
 have HM3:Hid (∀ W,Calls Tryz.prog 85 #[.int .i64 1,.int .i64 4] W fun e w'=>(∃ v',e=.returned (.tuple #[v',.nilIface])/\RatAt w' v' (aj (mkRat 1 4)))/\af W w'):=ae fun W=>kf 1 4 W (by decide) (by decide) (by decide)
 have HPB:Hid (∀ W cv v,aY W cv (aP [(1,0),(6,1)])->RatsAt W v di->Calls Tryz.prog 86 #[cv,v] W fun e w'=>(∃ v',e=.returned (.tuple #[v',.nilIface])/\RatAt w' v' (aj (mkRat 29 200)))/\af W w'):=ae fun W cv v h1 h2=>by
  have h:=tQ cv v _ di W h1 h2 tU (by decide);rw [Ag] at h;exact h
 have HTX:Hid (∀ W v,RatAt W v (aj (mkRat 29 200))->Calls Tryz.prog 44 #[v] W fun e w'=>e=.returned (.string ⟨#[50,57,47,50,48,48]⟩)/\af W w'):=ae fun W v h=>su v _ 29 200 [50,57] [50,48,48] [50,57,47,50,48,48] W h (by decide +kernel) (by decide +kernel) (by decide) (by decide) (by decide) (by decide) (by decide) (by decide) (by decide) (by decide) (by decide)
 have HCB:=ae (fun W va vb h1 h2=>rm (aP [(1,0),(6,1)]) va vb W h1 h2);go_enter Tryz.func39,Tryz.ntmps39;go_wp2_with fail;refine (HCU.out _).mono ?_;rintro e w1 ⟨⟨v1,rfl,hv1⟩,hk1⟩;have HV1:=ae hv1;have HK1:=ae hk1;clear hv1 hk1;go_wp2_with fail;refine (HM1.out _).mono ?_;rintro e w2 ⟨⟨v2,rfl,hv2⟩,hk2⟩;obtain ⟨u1,u2,rfl,h1,h2⟩:=hv2;have H1:=ae h1;have H2:=ae h2;obtain ⟨a1,c1,rfl⟩:=h1.shape;obtain ⟨a2,c2,rfl⟩:=h2.shape;have HK2:=ae hk2;have hr2:=ai.made w2 #[.bool (aj (mkRat 1 10)).neg,.slice a1 (aj (mkRat 1 10)).num.length c1,.slice a2 (aj (mkRat 1 10)).den.length c2] 29;obtain ⟨w3,hw3⟩:∃ w3,w3=w2.alloc (.cells #[.bool (aj (mkRat 1 10)).neg,.slice a1 (aj (mkRat 1 10)).num.length c1,.slice a2 (aj (mkRat 1 10)).den.length c2] 29):=⟨_,rfl⟩;have HK3:Hid (af w2 w3):=ae (by rw [hw3];exact (af.refl _).alloc _);rw [<-hw3] at hr2;have HR3:=ae hr2;have HW3:=ae hw3;generalize hn1:(aj (mkRat 1 10)).neg=n1 at *;generalize hl1:(aj (mkRat 1 10)).num.length=l1 at *;generalize hm1:(aj (mkRat 1 10)).den.length=m1 at *;have HL1:=ae (And.intro hn1 (And.intro hl1 hm1));clear h1 h2 hk2 hr2 hw3 hn1 hl1 hm1;go_wp2_with fail;rw [<-HW3.out];refine (HM2.out _).mono ?_;rintro e w4 ⟨⟨v4,rfl,hv4⟩,hk4⟩;obtain ⟨u3,u4,rfl,h3,h4⟩:=hv4;have H3:=ae h3;have H4:=ae h4;obtain ⟨a3,c3,rfl⟩:=h3.shape
 obtain ⟨a4,c4,rfl⟩:=h4.shape;have HK4:=ae hk4;have hr4:=ai.made w4 #[.bool (aj (mkRat 1 5)).neg,.slice a3 (aj (mkRat 1 5)).num.length c3,.slice a4 (aj (mkRat 1 5)).den.length c4] 29;obtain ⟨w5,hw5⟩:∃ w5,w5=w4.alloc (.cells #[.bool (aj (mkRat 1 5)).neg,.slice a3 (aj (mkRat 1 5)).num.length c3,.slice a4 (aj (mkRat 1 5)).den.length c4] 29):=⟨_,rfl⟩;have HK5:Hid (af w4 w5):=ae (by rw [hw5];exact (af.refl _).alloc _);rw [<-hw5] at hr4;have HR5:=ae hr4;have HW5:=ae hw5;generalize hn1:(aj (mkRat 1 5)).neg=n2 at *;generalize hl1:(aj (mkRat 1 5)).num.length=l2 at *;generalize hm1:(aj (mkRat 1 5)).den.length=m2 at *;have HL2:=ae (And.intro hn1 (And.intro hl1 hm1));clear h3 h4 hk4 hr4 hw5 hn1 hl1 hm1;go_wp2_with fail;rw [<-HW5.out];refine (HM3.out _).mono ?_;rintro e w6 ⟨⟨v6,rfl,hv6⟩,hk6⟩;obtain ⟨u5,u6,rfl,h5,h6⟩:=hv6;have H5:=ae h5;have H6:=ae h6;obtain ⟨a5,c5,rfl⟩:=h5.shape;obtain ⟨a6,c6,rfl⟩:=h6.shape;have HK6:=ae hk6;have hr6:=ai.made w6 #[.bool (aj (mkRat 1 4)).neg,.slice a5 (aj (mkRat 1 4)).num.length c5,.slice a6 (aj (mkRat 1 4)).den.length c6] 29;obtain ⟨w7,hw7⟩:∃ w7,w7=w6.alloc (.cells #[.bool (aj (mkRat 1 4)).neg,.slice a5 (aj (mkRat 1 4)).num.length c5,.slice a6 (aj (mkRat 1 4)).den.length c6] 29):=⟨_,rfl⟩;have HK7:Hid (af w6 w7):=ae (by rw [hw7];exact (af.refl _).alloc _);rw [<-hw7] at hr6
 have HW7:=ae hw7;have HK57:=ae (HK6.out.trans HK7.out);have HK37:=ae ((HK4.out.trans HK5.out).trans HK57.out);have HK17:=ae (HK2.out.trans (HK3.out.trans HK37.out));have HK56:=ae HK6.out;have HK36:=ae ((HK4.out.trans HK5.out).trans HK6.out);have z0:=(HR3.out.kept HK36.out).cell (i:=0) (by simp);have z1:=(HR3.out.kept HK36.out).cell (i:=1) (by simp);have z2:=(HR3.out.kept HK36.out).cell (i:=2) (by simp);have y0:=(HR5.out.kept HK56.out).cell (i:=0) (by simp);have y1:=(HR5.out.kept HK56.out).cell (i:=1) (by simp);have y2:=(HR5.out.kept HK56.out).cell (i:=2) (by simp);simp only [List.getElem_cons_succ,List.getElem_cons_zero] at y0 y1 y2 z0 z1 z2;have HRT:=ae (rY (w:=w7) (r1:=aj (mkRat 1 10)) (r2:=aj (mkRat 1 5)) (r3:=aj (mkRat 1 4)) (H1.out.kept (HK3.out.trans HK37.out)) (H2.out.kept (HK3.out.trans HK37.out)) (H3.out.kept (HK5.out.trans HK57.out)) (H4.out.kept (HK5.out.trans HK57.out)) (H5.out.kept HK7.out) (H6.out.kept HK7.out));have HV7:=ae (HV1.out.kept HK17.out);have hs7:w7.heap.size=w6.heap.size+1:=by rw [hw7];simp
 rw [hs7] at HRT;have hlt1:=(HR3.out.kept HK36.out).lt;have hlt2:=(HR5.out.kept HK56.out).lt;rw [HL1.out.1,HL2.out.1] at HRT;generalize hn1:(aj (mkRat 1 4)).neg=n3 at *;generalize hl1:(aj (mkRat 1 4)).num.length=l3 at *;generalize hm1:(aj (mkRat 1 4)).den.length=m3 at *;clear h5 h6 hk6 hr6 hw7 hs7 hn1 hl1 hm1;go_wp2_with fail;rw [<-HW7.out];obtain ⟨w8,hw8⟩:∃ w8,w8=w7.alloc (.cells #[.bool n1,.slice a1 l1 c1,.slice a2 m1 c2,.bool n2,.slice a3 l2 c3,.slice a4 m2 c4,.bool n3,.slice a5 l3 c5,.slice a6 m3 c6] 29):=⟨_,rfl⟩;rw [<-hw8] at HRT⊢;have HK8:Hid (af w7 w8):=ae (by rw [hw8];exact (af.refl _).alloc _);clear hw8;refine (HPB.out _ _ _ (HV7.out.kept HK8.out) HRT.out).mono ?_;rintro e w9 ⟨⟨v9,rfl,hv9⟩,hk9⟩;have HV9:=ae hv9;obtain ⟨u7,u8,rfl,h7,h8⟩:=hv9;obtain ⟨a7,c7,rfl⟩:=h7.shape;obtain ⟨a8,c8,rfl⟩:=h8.shape;have HK9:=ae (HK8.out.trans hk9);have HVC:=ae (HV7.out.kept HK9.out);have hr9:=ai.made w9 #[.bool (aj (mkRat 29 200)).neg,.slice a7 (aj (mkRat 29 200)).num.length c7,.slice a8 (aj (mkRat 29 200)).den.length c8] 29;obtain ⟨w10,hw10⟩:∃ w10,w10=w9.alloc (.cells #[.bool (aj (mkRat 29 200)).neg,.slice a7 (aj (mkRat 29 200)).num.length c7,.slice a8 (aj (mkRat 29 200)).den.length c8] 29):=⟨_,rfl⟩;have HK10:Hid (af w9 w10):=ae (by rw [hw10];exact (af.refl _).alloc _);rw [<-hw10] at hr9;have HW10:=ae hw10;have HR10:=ae hr9
 have HVA:=ae (HVC.out.kept HK10.out);obtain ⟨w11,hw11⟩:∃ w11,w11=w10.alloc (.cells #[.int .i64 1,.int .i64 0,.int .i64 6,.int .i64 1] 114):=⟨_,rfl⟩;have HC11:Hid (aY w11 (.slice (some ⟨w10.heap.size,0,none⟩) 2 2) (aP [(1,0),(6,1)])):=ae (by rw [hw11];exact yn w10);have hs10:w10.heap.size=w9.heap.size+1:=by rw [hw10];simp
 rw [hs10] at HC11;have HK11:Hid (af w10 w11):=ae (by rw [hw11];exact (af.refl _).alloc _);have HW11:=ae hw11;have HCE:=ae (HCB.out w11 _ _ (HVA.out.kept HK11.out) HC11.out);have HV10:=ae (HV9.out.kept (HK10.out.trans HK11.out));generalize (aj (mkRat 29 200)).neg=n4 at *;generalize (aj (mkRat 29 200)).num.length=l4 at *;generalize (aj (mkRat 29 200)).den.length=m4 at *;clear h7 h8 hk9 hr9 hw10 hw11 hs10 y0 y1 y2 z0 z1 z2 hlt1 hlt2;go_wp2_with fail;rw [<-HW10.out,<-HW11.out];refine HCE.out.mono ?_;rintro e w12 ⟨rfl,hk12⟩;have g0:=(HR10.out.kept (HK11.out.trans hk12)).cell (i:=0) (by simp);have g1:=(HR10.out.kept (HK11.out.trans hk12)).cell (i:=1) (by simp);have g2:=(HR10.out.kept (HK11.out.trans hk12)).cell (i:=2) (by simp);simp only [List.getElem_cons_succ,List.getElem_cons_zero] at g0 g1 g2;have HTT:=ae (HTX.out _ _ (HV10.out.kept hk12));have HK12:=ae hk12;clear hk12;go_wp2_with fail;refine HTT.out.mono ?_;rintro e w13 ⟨rfl,hk13⟩;go_wp2;go_ret;exact ⟨rfl,HK1.out.trans (HK17.out.trans (HK9.out.trans (HK10.out.trans (HK11.out.trans (HK12.out.trans hk13)))))⟩
theorem yq (xs:List Int):dG xs<=13:=by
 unfold dG;rcases tS xs with h | h | h <;> rw [h] <;> simp <;> (try split) <;> (try split) <;> omega
theorem nV (xs:List Int):(ce xs).1<=13:=by
 unfold ce;split
 ·exact yq xs
 ·split <;> simp
def kN (q0:Nat) (X:List Int) (V:Nat) (ps:List Rw):Nat × Rat :=
 if ps.length≠V then (11,0) else if eS ps=true then (3,0) else if q0≠0 then (q0,0) else if (ce X).1≠0 then ((ce X).1,0) else (0,bd ps (ce X).2 (ce X).2.length)
theorem gK {xs:List Int} (h:(ce xs).1=0):cO (bz xs)=some (ce xs).2:=by
 unfold ce at h⊢;by_cases h0:dG xs=0
 ·rw [if_neg (by omega)] at h⊢;cases hc:cO (bz xs) with
  | none=>rw [hc] at h;cases h
  | some l=>rfl
 ·rw [if_pos h0] at h;exact absurd h h0
theorem bw {w:World} {g:Nat} {e:TypeId} {x y z:Value} (h:ai w g e [x,y,z]):w.cell? ⟨g,0,none⟩=some x/\w.cell? ⟨g,1,none⟩=some y/\w.cell? ⟨g,2,none⟩=some z:=by
 have h0:=h.cell (i:=0) (by simp);have h1:=h.cell (i:=1) (by simp);have h2:=h.cell (i:=2) (by simp);exact ⟨by simpa using h0,by simpa using h1,by simpa using h2⟩
theorem vS (v pv:Value) (V T q0:Nat) (X:List Int) (ps:List Rw) (w:World) (hsv:∃ a n c,v=.slice a n c) (hq0:q0<=100)
  (hck:∀ W,af w W->Calls Tryz.prog 30 #[.agg #[.int .i64 V,v,.int .i64 T]] W fun e w'=>e=.returned .nilIface/\af W w')
  (hXb:(ce X).1=0->∀ c∈(ce X).2,c.1<16777216/\c.2<16777216)
  (hcu:∀ W,af w W->Calls Tryz.prog 34 #[.agg #[.int .i64 V,v,.int .i64 T]] W fun e w'=>(∃ v',e=.returned (.tuple #[v',bI q0])/\aq w' v' X)/\af W w')
  (hv:RatsAt w pv ps) (hp3:∀ r∈ps,r.Short 3) (hp30:ps.length<=30) :
  Calls Tryz.prog 32 #[.agg #[.int .i64 V,v,.int .i64 T],pv] w fun e w'=>(∃ v',e=.returned (.tuple #[v',bI (kN q0 X V ps).1])/\RatAt w' v' (aj (kN q0 X V ps).2))/\af w w':=by
 have HBA:=ae (fun W (h:af w W)=>pj pv ps W (hv.kept h) (fun r hr=>⟨Nat.le_trans (hp3 r hr).1 (by omega),Nat.le_trans (hp3 r hr).2 (by omega)⟩));have HCU:=ae hcu;have HCB:=ae (fun va W (h:aq W va X)=>mK va X W h);have hc13:=nV X;have HCH:=ae hck;obtain ⟨QQ,hQQ⟩:∃ QQ,QQ=kN q0 X V ps:=⟨_,rfl⟩;rw [<-hQQ];unfold kN at hQQ;obtain ⟨qc,hqc⟩:∃ qc,qc=(ce X).1:=⟨_,rfl⟩;obtain ⟨out,hout⟩:∃ out,out=(ce X).2:=⟨_,rfl⟩;rw [<-hqc,<-hout] at hQQ;rw [<-hqc,<-hout] at HCB;rw [<-hqc] at hc13;have HXB:Hid (qc=0->∀ c∈out,c.1<16777216/\c.2<16777216):=ae (by rw [hqc,hout];exact hXb)
 have HLEN:Hid (qc=0->out.length<=1024):=ae (by
  rw [hqc,hout];intro h;exact mL (gK h))
 have HPV:=ae hv;have H3:=ae hp3;have H30:=ae hp30;obtain ⟨a,n,c,rfl⟩:=hsv;obtain ⟨pa,pc,rfl⟩:=hv.shape;obtain ⟨pn,hpn⟩:∃ pn,pn=ps.length:=⟨_,rfl⟩;rw [<-hpn] at HBA hQQ HPV⊢;have HPN:=ae hpn;obtain ⟨w1,hw1⟩:∃ w1,w1=w.alloc (.cells #[.int .i64 V,.slice a n c,.int .i64 T] 41):=⟨_,rfl⟩;have HS1:Hid (w1.heap.size=w.heap.size+1):=ae (by rw [hw1];simp);have hx1:ai w1 w.heap.size 41 [.int .i64 V,.slice a n c,.int .i64 T]:=by rw [hw1];exact ai.made w #[.int .i64 V,.slice a n c,.int .i64 T] 41
 have hk1:af w w1:=by rw [hw1];exact (af.refl _).alloc _
 obtain ⟨w2,hw2⟩:∃ w2,w2=w1.alloc (.cells #[.bool false,.slice none 0 0,.slice none 0 0] 29):=⟨_,rfl⟩;have HR2:Hid (ai w2 w1.heap.size 29 [.bool false,.slice none 0 0,.slice none 0 0]):=ae (by rw [hw2];exact ai.made w1 #[.bool false,.slice none 0 0,.slice none 0 0] 29);have HF2:Hid (a_ w2 w1.heap.size [.bool false,.slice none 0 0,.slice none 0 0]):=ae (by rw [hw2];exact a_.made w1 #[.bool false,.slice none 0 0,.slice none 0 0] 29);have hk2:af w1 w2:=by rw [hw2];exact (af.refl _).alloc _
 have HX2:=ae (hx1.kept hk2);have HK2:=ae (hk1.trans hk2);have HW1:=ae hw1;have HW2:=ae hw2;have HQQ:=ae hQQ;clear hv hp3 hp30 hcu hw1 hw2 hx1 hk1 hk2 hpn hqc hout hQQ hck hXb;by_cases hpv:pn=V
 ·subst hpv;cases hbad:eS ps with
  | true =>
   have HQV:Hid (QQ.1=3/\QQ.2=0):=ae (by rw [HQQ.out,if_neg (by simp),if_pos hbad];exact ⟨rfl,rfl⟩);rw [hbad] at HBA;clear hbad;go_enter Tryz.func32,Tryz.ntmps32;go_wp2_with fail;rw [<-HW1.out,<-HS1.out,<-HW2.out];refine (HCH.out _ HK2.out).mono ?_;rintro e w3 ⟨rfl,hk3⟩;have HR3:=ae (HR2.out.kept hk3);have HF3:=ae (HF2.out.kept hk3);have HX3:=ae (HX2.out.kept hk3);have HK3:=ae (HK2.out.trans hk3);obtain ⟨c0,c1,c2⟩:=bw HX3.out;clear hk3;go_wp2_with fail;refine (HBA.out _ HK3.out).mono ?_;rintro e w4 ⟨rfl,hk4⟩;have HR4:=ae (HR3.out.kept hk4);have HF4:=ae (HF3.out.kept hk4);have HX4:=ae (HX3.out.kept hk4);have HK4:=ae (HK3.out.trans hk4);obtain ⟨c0,c1,c2⟩:=bw HX4.out;clear hk4;have hr5:=HR4.out;obtain ⟨y0,y1,y2,hra⟩:=az (r:=⟨false,[],[]⟩) hr5 HF4.out (ah.nil _) (ah.nil _);have Y:=ae (And.intro y0 (And.intro y1 y2));have HRA:=ae hra;have g0:=hr5.cell (i:=0) (by simp);have g1:=hr5.cell (i:=1) (by simp);have g2:=hr5.cell (i:=2) (by simp);have f0:=hr5.free 0;have f1:=hr5.free 1;have f2:=hr5.free 2;have hlt5:=hr5.lt;have HL5:Hid (w.heap.size<=w1.heap.size):=ae (by have:=HS1.out;omega);clear hr5 y0 y1 y2 hra;go_wp2;refine bodyPost_ret (v:=.tuple #[.agg #[.bool false,.slice none 0 0,.slice none 0 0],bI 3]) ?_ rfl ⟨⟨_,by rw [HQV.out.1],by rw [HQV.out.2,bF];exact HRA.out⟩,?_⟩
   ·simp [results,Tryz.results32,go_sem,Y.out.1,Y.out.2.1,Y.out.2.2,bI]
   ·exact ((HK4.out.store HL5.out _ _).store HL5.out _ _).store HL5.out _ _
  | false =>
   rw [hbad] at HBA;by_cases hq:q0=0
   ·subst hq;by_cases hc0:qc=0
    ·subst hc0;have HQV:Hid (QQ.1=0/\QQ.2=bd ps out out.length):=ae (by rw [HQQ.out,if_neg (by simp),if_neg (by rw [hbad];simp),if_neg (by simp),if_neg (by simp)];exact ⟨rfl,rfl⟩);have HOL:=ae (HLEN.out rfl);clear hbad;rw [dd] at HCU HCB;go_enter Tryz.func32,Tryz.ntmps32;go_wp2_with fail;rw [<-HW1.out,<-HS1.out,<-HW2.out];refine (HCH.out _ HK2.out).mono ?_;rintro e w3 ⟨rfl,hk3⟩;have HR3:=ae (HR2.out.kept hk3);have HF3:=ae (HF2.out.kept hk3);have HX3:=ae (HX2.out.kept hk3);have HK3:=ae (HK2.out.trans hk3);obtain ⟨c0,c1,c2⟩:=bw HX3.out;clear hk3;go_wp2_with fail;refine (HBA.out _ HK3.out).mono ?_;rintro e w4 ⟨rfl,hk4⟩;have HR4:=ae (HR3.out.kept hk4);have HF4:=ae (HF3.out.kept hk4);have HX4:=ae (HX3.out.kept hk4);have HK4:=ae (HK3.out.trans hk4);obtain ⟨c0,c1,c2⟩:=bw HX4.out;clear hk4;go_wp2_with fail;refine (HCU.out _ HK4.out).mono ?_;rintro e w5 ⟨⟨v5,rfl,hv5⟩,hk5⟩;have HI5:=ae hv5;have HR5:=ae (HR4.out.kept hk5);have HF5:=ae (HF4.out.kept hk5);have HX5:=ae (HX4.out.kept hk5);have HK5:=ae (HK4.out.trans hk5);obtain ⟨c0,c1,c2⟩:=bw HX5.out;clear hk5;obtain ⟨a5,n5,c5,rfl⟩:=hv5.shape;clear hv5;go_wp2_with fail;refine (HCB.out _ _ HI5.out).mono ?_;rintro e w6 ⟨⟨v6,rfl,hv6⟩,hk6⟩;have HV6:=ae hv6;have HR6:=ae (HR5.out.kept hk6);have HF6:=ae (HF5.out.kept hk6)
     have HX6:=ae (HX5.out.kept hk6);have HK6:=ae (HK5.out.trans hk6);obtain ⟨c0,c1,c2⟩:=bw HX6.out;clear hk6;obtain ⟨a6,c6,rfl⟩:=hv6.shape;rw [aK] at HV6⊢;clear hv6;obtain ⟨R,hR⟩:∃ R,R=aj QQ.2:=⟨_,rfl⟩;have HRR:=ae hR;have HTO:=ae (fun W (h:af w6 W)=>lj _ _ out ps W (HV6.out.kept h) (HXB.out (by simp)) HOL.out (HPV.out.kept (HK6.out.trans h)) H3.out H30.out);rw [<-HQV.out.2,<-hR] at HTO;clear hR;go_wp2_with fail;refine (HTO.out _ (af.refl _)).mono ?_;rintro e w7 ⟨⟨v7,rfl,hv7⟩,hk7⟩;have hrr:=HR6.out.kept hk7;have Hdisjoint.Top:=ae (HF6.out.kept hk7);have HK7:=ae (HK6.out.trans hk7);obtain ⟨u7,u8,rfl,k7,k8⟩:=hv7;obtain ⟨a7,c7,rfl⟩:=k7.shape;obtain ⟨a8,c8,rfl⟩:=k8.shape;obtain ⟨y0,y1,y2,hra⟩:=az hrr Hdisjoint.Top.out k7 k8;have g0:=hrr.cell (i:=0) (by simp);have g1:=hrr.cell (i:=1) (by simp);have g2:=hrr.cell (i:=2) (by simp);have f0:=hrr.free 0;have f1:=hrr.free 1;have f2:=hrr.free 2;have hlt5:=hrr.lt;have HRA:=ae hra;have Y:=ae (And.intro y0 (And.intro y1 y2));have HL5:Hid (w.heap.size<=w1.heap.size):=ae (by have:=HS1.out;omega);clear hra y0 y1 y2 k7 k8 hrr hk7;generalize R.num.length=n7 at *;generalize R.den.length=n8 at *;go_wp2;refine bodyPost_ret (v:=.tuple #[.agg #[.bool R.neg,.slice a7 n7 c7,.slice a8 n8 c8],.nilIface]) ?_ rfl ⟨⟨_,by rw [HQV.out.1];rfl,by rw [<-HRR.out];exact HRA.out⟩,?_⟩
     ·simp [results,Tryz.results32,go_sem,Y.out.1,Y.out.2.1,Y.out.2.2]
     ·exact ((HK7.out.store HL5.out _ _).store HL5.out _ _).store HL5.out _ _
    ·have HQV:Hid (QQ.1=qc/\QQ.2=0):=ae (by rw [HQQ.out,if_neg (by simp),if_neg (by rw [hbad];simp),if_neg (by simp),if_pos hc0];exact ⟨rfl,rfl⟩);clear hbad;rw [bJ hc0] at HCB;rw [dd] at HCU;go_enter Tryz.func32,Tryz.ntmps32;go_wp2_with fail;rw [<-HW1.out,<-HS1.out,<-HW2.out];refine (HCH.out _ HK2.out).mono ?_;rintro e w3 ⟨rfl,hk3⟩;have HR3:=ae (HR2.out.kept hk3);have HF3:=ae (HF2.out.kept hk3);have HX3:=ae (HX2.out.kept hk3);have HK3:=ae (HK2.out.trans hk3);obtain ⟨c0,c1,c2⟩:=bw HX3.out;clear hk3;go_wp2_with fail;refine (HBA.out _ HK3.out).mono ?_;rintro e w4 ⟨rfl,hk4⟩;have HR4:=ae (HR3.out.kept hk4);have HF4:=ae (HF3.out.kept hk4);have HX4:=ae (HX3.out.kept hk4);have HK4:=ae (HK3.out.trans hk4);obtain ⟨c0,c1,c2⟩:=bw HX4.out;clear hk4;go_wp2_with fail;refine (HCU.out _ HK4.out).mono ?_;rintro e w5 ⟨⟨v5,rfl,hv5⟩,hk5⟩;have HI5:=ae hv5;have HR5:=ae (HR4.out.kept hk5);have HF5:=ae (HF4.out.kept hk5);have HX5:=ae (HX4.out.kept hk5);have HK5:=ae (HK4.out.trans hk5);obtain ⟨c0,c1,c2⟩:=bw HX5.out;clear hk5;obtain ⟨a5,n5,c5,rfl⟩:=hv5.shape;clear hv5;go_wp2_with fail;refine (HCB.out _ _ HI5.out).mono ?_;rintro e w6 ⟨⟨v6,rfl,hv6⟩,hk6⟩;have HR6:=ae (HR5.out.kept hk6);have HF6:=ae (HF5.out.kept hk6);have HX6:=ae (HX5.out.kept hk6);have HK6:=ae (HK5.out.trans hk6)
     obtain ⟨c0,c1,c2⟩:=bw HX6.out;clear hk6;obtain ⟨a6,c6,rfl⟩:=hv6.shape;clear hv6;have hr5:=HR6.out;obtain ⟨y0,y1,y2,hra⟩:=az (r:=⟨false,[],[]⟩) hr5 HF6.out (ah.nil _) (ah.nil _);have Y:=ae (And.intro y0 (And.intro y1 y2));have HRA:=ae hra;have g0:=hr5.cell (i:=0) (by simp);have g1:=hr5.cell (i:=1) (by simp);have g2:=hr5.cell (i:=2) (by simp);have f0:=hr5.free 0;have f1:=hr5.free 1;have f2:=hr5.free 2;have hlt5:=hr5.lt;have HL5:Hid (w.heap.size<=w1.heap.size):=ae (by have:=HS1.out;omega);clear hr5 y0 y1 y2 hra;go_wp2;refine bodyPost_ret (v:=.tuple #[.agg #[.bool false,.slice none 0 0,.slice none 0 0],.iface 60 (.int .i64 qc)]) ?_ rfl ⟨⟨_,by rw [HQV.out.1];rw [bJ hc0],by rw [HQV.out.2,bF];exact HRA.out⟩,?_⟩
     ·simp [results,Tryz.results32,go_sem,Y.out.1,Y.out.2.1,Y.out.2.2]
     ·exact ((HK6.out.store HL5.out _ _).store HL5.out _ _).store HL5.out _ _
   ·have HQV:Hid (QQ.1=q0/\QQ.2=0):=ae (by rw [HQQ.out,if_neg (by simp),if_neg (by rw [hbad];simp),if_pos hq];exact ⟨rfl,rfl⟩);clear hbad;rw [bJ hq] at HCU;go_enter Tryz.func32,Tryz.ntmps32;go_wp2_with fail;rw [<-HW1.out,<-HS1.out,<-HW2.out];refine (HCH.out _ HK2.out).mono ?_;rintro e w3 ⟨rfl,hk3⟩;have HR3:=ae (HR2.out.kept hk3);have HF3:=ae (HF2.out.kept hk3);have HX3:=ae (HX2.out.kept hk3);have HK3:=ae (HK2.out.trans hk3);obtain ⟨c0,c1,c2⟩:=bw HX3.out;clear hk3;go_wp2_with fail;refine (HBA.out _ HK3.out).mono ?_;rintro e w4 ⟨rfl,hk4⟩;have HR4:=ae (HR3.out.kept hk4);have HF4:=ae (HF3.out.kept hk4);have HX4:=ae (HX3.out.kept hk4);have HK4:=ae (HK3.out.trans hk4);obtain ⟨c0,c1,c2⟩:=bw HX4.out;clear hk4;go_wp2_with fail;refine (HCU.out _ HK4.out).mono ?_;rintro e w5 ⟨⟨v5,rfl,hv5⟩,hk5⟩;have HR5:=ae (HR4.out.kept hk5);have HF5:=ae (HF4.out.kept hk5);have HX5:=ae (HX4.out.kept hk5);have HK5:=ae (HK4.out.trans hk5);obtain ⟨c0,c1,c2⟩:=bw HX5.out;clear hk5;obtain ⟨a5,n5,c5,rfl⟩:=hv5.shape;clear hv5;have hr5:=HR5.out;obtain ⟨y0,y1,y2,hra⟩:=az (r:=⟨false,[],[]⟩) hr5 HF5.out (ah.nil _) (ah.nil _);have Y:=ae (And.intro y0 (And.intro y1 y2));have HRA:=ae hra;have g0:=hr5.cell (i:=0) (by simp);have g1:=hr5.cell (i:=1) (by simp);have g2:=hr5.cell (i:=2) (by simp)
    have f0:=hr5.free 0;have f1:=hr5.free 1;have f2:=hr5.free 2;have hlt5:=hr5.lt;have HL5:Hid (w.heap.size<=w1.heap.size):=ae (by have:=HS1.out;omega);clear hr5 y0 y1 y2 hra;go_wp2;refine bodyPost_ret (v:=.tuple #[.agg #[.bool false,.slice none 0 0,.slice none 0 0],.iface 60 (.int .i64 q0)]) ?_ rfl ⟨⟨_,by rw [HQV.out.1];rw [bJ hq],by rw [HQV.out.2,bF];exact HRA.out⟩,?_⟩
    ·simp [results,Tryz.results32,go_sem,Y.out.1,Y.out.2.1,Y.out.2.2]
    ·exact ((HK5.out.store HL5.out _ _).store HL5.out _ _).store HL5.out _ _
 ·have HQV:Hid (QQ.1=11/\QQ.2=0):=ae (by rw [HQQ.out,if_pos hpv];exact ⟨rfl,rfl⟩);have hne:((pn:Int) != (V:Int))=true:=by simp;omega
  have hne2:¬ (pn:Int)=(V:Int):=by omega
  go_enter Tryz.func32,Tryz.ntmps32;go_wp2_with fail;rw [<-HW1.out,<-HS1.out,<-HW2.out];refine (HCH.out _ HK2.out).mono ?_;rintro e w3 ⟨rfl,hk3⟩;have HR3:=ae (HR2.out.kept hk3);have HF3:=ae (HF2.out.kept hk3);have HX3:=ae (HX2.out.kept hk3);have HK3:=ae (HK2.out.trans hk3);obtain ⟨c0,c1,c2⟩:=bw HX3.out;clear hk3;have hr5:=HR3.out;obtain ⟨y0,y1,y2,hra⟩:=az (r:=⟨false,[],[]⟩) hr5 HF3.out (ah.nil _) (ah.nil _);have Y:=ae (And.intro y0 (And.intro y1 y2));have HRA:=ae hra;have g0:=hr5.cell (i:=0) (by simp);have g1:=hr5.cell (i:=1) (by simp);have g2:=hr5.cell (i:=2) (by simp);have f0:=hr5.free 0;have f1:=hr5.free 1;have f2:=hr5.free 2;have hlt5:=hr5.lt;have HL5:Hid (w.heap.size<=w1.heap.size):=ae (by have:=HS1.out;omega);clear hr5 y0 y1 y2 hra;go_wp2;refine bodyPost_ret (v:=.tuple #[.agg #[.bool false,.slice none 0 0,.slice none 0 0],bI 11]) ?_ rfl ⟨⟨_,by rw [HQV.out.1],by rw [HQV.out.2,bF];exact HRA.out⟩,?_⟩
  ·simp [results,Tryz.results32,go_sem,Y.out.1,Y.out.2.1,Y.out.2.2,bI]
  ·exact ((HK3.out.store HL5.out _ _).store HL5.out _ _).store HL5.out _ _
theorem uM (v pv:Value) (V T q0:Nat) (X:List Int) (ps:List Rw) (w:World) (hsv:∃ a n c,v=.slice a n c) (hq0:q0<=100)
  (hPT:ps.length=V->eS ps=false->q0=0->(ce X).1=0->prbD (aP (ce X).2) ps=(0,bd ps (ce X).2 (ce X).2.length))
  (hcu:∀ W,af w W->Calls Tryz.prog 63 #[.agg #[.int .i64 V,v,.int .i64 T]] W fun e w'=>(∃ v',e=.returned (.tuple #[v',.int .i64 (q0:Nat)])/\aq w' v' X)/\af W w')
  (hv:RatsAt w pv ps) (hp3:∀ r∈ps,r.Short 3) (hp30:ps.length<=30) :
  Calls Tryz.prog 41 #[.agg #[.int .i64 V,v,.int .i64 T],pv] w fun e w'=>(∃ v',e=.returned (.tuple #[v',.int .i64 ((kN q0 X V ps).1:Nat)])/\RatAt w' v' (aj (kN q0 X V ps).2))/\af w w':=by
 have HBA:=ae (fun W (h:af w W)=>lR pv ps W (hv.kept h) (fun r hr=>⟨Nat.le_trans (hp3 r hr).1 (by omega),Nat.le_trans (hp3 r hr).2 (by omega)⟩));have HCU:=ae hcu;have HCB:=ae (fun va W (h:aq W va X)=>oC va X W h);have hc13:=nV X;have HPT0:=ae hPT;obtain ⟨QQ,hQQ⟩:∃ QQ,QQ=kN q0 X V ps:=⟨_,rfl⟩;rw [<-hQQ];unfold kN at hQQ;obtain ⟨qc,hqc⟩:∃ qc,qc=(ce X).1:=⟨_,rfl⟩;obtain ⟨out,hout⟩:∃ out,out=(ce X).2:=⟨_,rfl⟩;rw [<-hqc,<-hout] at hQQ;rw [<-hqc,<-hout] at HCB;rw [<-hqc] at hc13;have HPT:Hid (ps.length=V->eS ps=false->q0=0->qc=0->prbD (aP out) ps=(0,bd ps out out.length)):=ae (by rw [hqc,hout];exact hPT);have HPV:=ae hv;have H3:=ae hp3;have H30:=ae hp30;obtain ⟨a,n,c,rfl⟩:=hsv;obtain ⟨pa,pc,rfl⟩:=hv.shape;obtain ⟨pn,hpn⟩:∃ pn,pn=ps.length:=⟨_,rfl⟩;rw [<-hpn] at HBA hQQ HPV⊢;have HPN:=ae hpn;obtain ⟨w1,hw1⟩:∃ w1,w1=w.alloc (.cells #[.int .i64 V,.slice a n c,.int .i64 T] 41):=⟨_,rfl⟩;have HS1:Hid (w1.heap.size=w.heap.size+1):=ae (by rw [hw1];simp);have hx1:ai w1 w.heap.size 41 [.int .i64 V,.slice a n c,.int .i64 T]:=by rw [hw1];exact ai.made w #[.int .i64 V,.slice a n c,.int .i64 T] 41
 have hk1:af w w1:=by rw [hw1];exact (af.refl _).alloc _
 obtain ⟨w2,hw2⟩:∃ w2,w2=w1.alloc (.cells #[.bool false,.slice none 0 0,.slice none 0 0] 29):=⟨_,rfl⟩;have HR2:Hid (ai w2 w1.heap.size 29 [.bool false,.slice none 0 0,.slice none 0 0]):=ae (by rw [hw2];exact ai.made w1 #[.bool false,.slice none 0 0,.slice none 0 0] 29);have HF2:Hid (a_ w2 w1.heap.size [.bool false,.slice none 0 0,.slice none 0 0]):=ae (by rw [hw2];exact a_.made w1 #[.bool false,.slice none 0 0,.slice none 0 0] 29);have hk2:af w1 w2:=by rw [hw2];exact (af.refl _).alloc _
 have HX2:=ae (hx1.kept hk2);have HK2:=ae (hk1.trans hk2);have HW1:=ae hw1;have HW2:=ae hw2;have HQQ:=ae hQQ;clear hv hp3 hp30 hcu hw1 hw2 hx1 hk1 hk2 hpn hqc hout hQQ hPT HPT0;by_cases hpv:pn=V
 ·subst hpv;cases hbad:eS ps with
  | true =>
   have HQV:Hid (QQ.1=3/\QQ.2=0):=ae (by rw [HQQ.out,if_neg (by simp),if_pos hbad];exact ⟨rfl,rfl⟩);rw [hbad] at HBA;clear hbad;go_enter Tryz.func41,Tryz.ntmps41;go_wp2_with fail;rw [<-HW1.out,<-HS1.out,<-HW2.out];refine (HBA.out _ HK2.out).mono ?_;rintro e w4 ⟨rfl,hk4⟩;have HR4:=ae (HR2.out.kept hk4);have HF4:=ae (HF2.out.kept hk4);have HX4:=ae (HX2.out.kept hk4);have HK4:=ae (HK2.out.trans hk4);obtain ⟨c0,c1,c2⟩:=bw HX4.out;clear hk4;have hr5:=HR4.out;obtain ⟨y0,y1,y2,hra⟩:=az (r:=⟨false,[],[]⟩) hr5 HF4.out (ah.nil _) (ah.nil _);have Y:=ae (And.intro y0 (And.intro y1 y2));have HRA:=ae hra;have g0:=hr5.cell (i:=0) (by simp);have g1:=hr5.cell (i:=1) (by simp);have g2:=hr5.cell (i:=2) (by simp);have f0:=hr5.free 0;have f1:=hr5.free 1;have f2:=hr5.free 2;have hlt5:=hr5.lt;have HL5:Hid (w.heap.size<=w1.heap.size):=ae (by have:=HS1.out;omega);clear hr5 y0 y1 y2 hra;go_wp2;refine bodyPost_ret (v:=.tuple #[.agg #[.bool false,.slice none 0 0,.slice none 0 0],.int .i64 3]) ?_ rfl ⟨⟨_,by rw [HQV.out.1];rfl,by rw [HQV.out.2,bF];exact HRA.out⟩,?_⟩
   ·simp [results,Tryz.results41,go_sem,Y.out.1,Y.out.2.1,Y.out.2.2]
   ·exact ((HK4.out.store HL5.out _ _).store HL5.out _ _).store HL5.out _ _
  | false =>
   rw [hbad] at HBA;by_cases hq:q0=0
   ·subst hq;by_cases hc0:qc=0
    ·subst hc0;have HQV:Hid (QQ.1=0/\QQ.2=bd ps out out.length):=ae (by rw [HQQ.out,if_neg (by simp),if_neg (by rw [hbad];simp),if_neg (by simp),if_neg (by simp)];exact ⟨rfl,rfl⟩);have HPT2:=ae (HPT.out HPN.out.symm hbad rfl rfl);clear hbad;go_enter Tryz.func41,Tryz.ntmps41;go_wp2_with fail;rw [<-HW1.out,<-HS1.out,<-HW2.out];refine (HBA.out _ HK2.out).mono ?_;rintro e w4 ⟨rfl,hk4⟩;have HR4:=ae (HR2.out.kept hk4);have HF4:=ae (HF2.out.kept hk4);have HX4:=ae (HX2.out.kept hk4);have HK4:=ae (HK2.out.trans hk4);obtain ⟨c0,c1,c2⟩:=bw HX4.out;clear hk4;go_wp2_with fail;refine (HCU.out _ HK4.out).mono ?_;rintro e w5 ⟨⟨v5,rfl,hv5⟩,hk5⟩;have HI5:=ae hv5;have HR5:=ae (HR4.out.kept hk5);have HF5:=ae (HF4.out.kept hk5);have HX5:=ae (HX4.out.kept hk5);have HK5:=ae (HK4.out.trans hk5);obtain ⟨c0,c1,c2⟩:=bw HX5.out;clear hk5;obtain ⟨a5,n5,c5,rfl⟩:=hv5.shape;clear hv5;go_wp2_with fail;refine (HCB.out _ _ HI5.out).mono ?_;rintro e w6 ⟨⟨v6,rfl,hv6⟩,hk6⟩;have HV6:=ae hv6;have HR6:=ae (HR5.out.kept hk6);have HF6:=ae (HF5.out.kept hk6);have HX6:=ae (HX5.out.kept hk6);have HK6:=ae (HK5.out.trans hk6);obtain ⟨c0,c1,c2⟩:=bw HX6.out;clear hk6;obtain ⟨a6,c6,rfl⟩:=hv6.shape;rw [aK] at HV6⊢;clear hv6;obtain ⟨R,hR⟩:∃ R,R=aj QQ.2:=⟨_,rfl⟩;have HRR:=ae hR
     have HTO:Hid (∀ W,af w6 W->Calls Tryz.prog 91 #[.slice a6 out.length c6,.slice pa pn pc] W fun e w'=>(∃ v',e=.returned (.tuple #[v',.int .i64 0])/\RatAt w' v' (aj (bd ps out out.length)))/\af W w'):=ae (fun W (h:af w6 W)=>by
      have h1:=sd _ _ (aP out) ps W (HV6.out.kept h) (HPV.out.kept (HK6.out.trans h)) H3.out H30.out;rw [HPT2.out] at h1;exact h1)
     rw [<-HQV.out.2,<-hR] at HTO;clear hR;go_wp2_with fail;refine (HTO.out _ (af.refl _)).mono ?_;rintro e w7 ⟨⟨v7,rfl,hv7⟩,hk7⟩;have hrr:=HR6.out.kept hk7;have Hfaultlineref38.Top:=ae (HF6.out.kept hk7);have HK7:=ae (HK6.out.trans hk7);obtain ⟨u7,u8,rfl,k7,k8⟩:=hv7;obtain ⟨a7,c7,rfl⟩:=k7.shape;obtain ⟨a8,c8,rfl⟩:=k8.shape;obtain ⟨y0,y1,y2,hra⟩:=az hrr Hfaultlineref38.Top.out k7 k8;have g0:=hrr.cell (i:=0) (by simp);have g1:=hrr.cell (i:=1) (by simp);have g2:=hrr.cell (i:=2) (by simp);have f0:=hrr.free 0;have f1:=hrr.free 1;have f2:=hrr.free 2;have hlt5:=hrr.lt;have HRA:=ae hra;have Y:=ae (And.intro y0 (And.intro y1 y2));have HL5:Hid (w.heap.size<=w1.heap.size):=ae (by have:=HS1.out;omega);clear hra y0 y1 y2 k7 k8 hrr hk7;generalize R.num.length=n7 at *;generalize R.den.length=n8 at *;go_wp2;refine bodyPost_ret (v:=.tuple #[.agg #[.bool R.neg,.slice a7 n7 c7,.slice a8 n8 c8],.int .i64 0]) ?_ rfl ⟨⟨_,by rw [HQV.out.1];rfl,by rw [<-HRR.out];exact HRA.out⟩,?_⟩
     ·simp [results,Tryz.results41,go_sem,Y.out.1,Y.out.2.1,Y.out.2.2]
     ·exact ((HK7.out.store HL5.out _ _).store HL5.out _ _).store HL5.out _ _
    ·have HQV:Hid (QQ.1=qc/\QQ.2=0):=ae (by rw [HQQ.out,if_neg (by simp),if_neg (by rw [hbad];simp),if_neg (by simp),if_pos hc0];exact ⟨rfl,rfl⟩);clear hbad;have e1:((qc:Int) != 0)=true:=by simp;omega
     have e2:¬ (qc:Int)=0:=by omega
     go_enter Tryz.func41,Tryz.ntmps41;go_wp2_with fail;rw [<-HW1.out,<-HS1.out,<-HW2.out];refine (HBA.out _ HK2.out).mono ?_;rintro e w4 ⟨rfl,hk4⟩;have HR4:=ae (HR2.out.kept hk4);have HF4:=ae (HF2.out.kept hk4);have HX4:=ae (HX2.out.kept hk4);have HK4:=ae (HK2.out.trans hk4);obtain ⟨c0,c1,c2⟩:=bw HX4.out;clear hk4;go_wp2_with fail;refine (HCU.out _ HK4.out).mono ?_;rintro e w5 ⟨⟨v5,rfl,hv5⟩,hk5⟩;have HI5:=ae hv5;have HR5:=ae (HR4.out.kept hk5);have HF5:=ae (HF4.out.kept hk5);have HX5:=ae (HX4.out.kept hk5);have HK5:=ae (HK4.out.trans hk5);obtain ⟨c0,c1,c2⟩:=bw HX5.out;clear hk5;obtain ⟨a5,n5,c5,rfl⟩:=hv5.shape;clear hv5;go_wp2_with fail;refine (HCB.out _ _ HI5.out).mono ?_;rintro e w6 ⟨⟨v6,rfl,hv6⟩,hk6⟩;have HR6:=ae (HR5.out.kept hk6);have HF6:=ae (HF5.out.kept hk6);have HX6:=ae (HX5.out.kept hk6);have HK6:=ae (HK5.out.trans hk6);obtain ⟨c0,c1,c2⟩:=bw HX6.out;clear hk6;obtain ⟨a6,c6,rfl⟩:=hv6.shape;clear hv6;have hr5:=HR6.out;obtain ⟨y0,y1,y2,hra⟩:=az (r:=⟨false,[],[]⟩) hr5 HF6.out (ah.nil _) (ah.nil _);have Y:=ae (And.intro y0 (And.intro y1 y2));have HRA:=ae hra;have g0:=hr5.cell (i:=0) (by simp);have g1:=hr5.cell (i:=1) (by simp);have g2:=hr5.cell (i:=2) (by simp);have f0:=hr5.free 0;have f1:=hr5.free 1;have f2:=hr5.free 2;have hlt5:=hr5.lt
     have HL5:Hid (w.heap.size<=w1.heap.size):=ae (by have:=HS1.out;omega);clear hr5 y0 y1 y2 hra;go_wp2;refine bodyPost_ret (v:=.tuple #[.agg #[.bool false,.slice none 0 0,.slice none 0 0],.int .i64 qc]) ?_ rfl ⟨⟨_,by rw [HQV.out.1],by rw [HQV.out.2,bF];exact HRA.out⟩,?_⟩
     ·simp [results,Tryz.results41,go_sem,Y.out.1,Y.out.2.1,Y.out.2.2]
     ·exact ((HK6.out.store HL5.out _ _).store HL5.out _ _).store HL5.out _ _
   ·have HQV:Hid (QQ.1=q0/\QQ.2=0):=ae (by rw [HQQ.out,if_neg (by simp),if_neg (by rw [hbad];simp),if_pos hq];exact ⟨rfl,rfl⟩);clear hbad;have e1:((q0:Int) != 0)=true:=by simp;omega
    have e2:¬ (q0:Int)=0:=by omega
    go_enter Tryz.func41,Tryz.ntmps41;go_wp2_with fail;rw [<-HW1.out,<-HS1.out,<-HW2.out];refine (HBA.out _ HK2.out).mono ?_;rintro e w4 ⟨rfl,hk4⟩;have HR4:=ae (HR2.out.kept hk4);have HF4:=ae (HF2.out.kept hk4);have HX4:=ae (HX2.out.kept hk4);have HK4:=ae (HK2.out.trans hk4);obtain ⟨c0,c1,c2⟩:=bw HX4.out;clear hk4;go_wp2_with fail;refine (HCU.out _ HK4.out).mono ?_;rintro e w5 ⟨⟨v5,rfl,hv5⟩,hk5⟩;have HR5:=ae (HR4.out.kept hk5);have HF5:=ae (HF4.out.kept hk5);have HX5:=ae (HX4.out.kept hk5);have HK5:=ae (HK4.out.trans hk5);obtain ⟨c0,c1,c2⟩:=bw HX5.out;clear hk5;obtain ⟨a5,n5,c5,rfl⟩:=hv5.shape;clear hv5;have hr5:=HR5.out;obtain ⟨y0,y1,y2,hra⟩:=az (r:=⟨false,[],[]⟩) hr5 HF5.out (ah.nil _) (ah.nil _);have Y:=ae (And.intro y0 (And.intro y1 y2));have HRA:=ae hra;have g0:=hr5.cell (i:=0) (by simp);have g1:=hr5.cell (i:=1) (by simp);have g2:=hr5.cell (i:=2) (by simp);have f0:=hr5.free 0;have f1:=hr5.free 1;have f2:=hr5.free 2;have hlt5:=hr5.lt;have HL5:Hid (w.heap.size<=w1.heap.size):=ae (by have:=HS1.out;omega);clear hr5 y0 y1 y2 hra;go_wp2;refine bodyPost_ret (v:=.tuple #[.agg #[.bool false,.slice none 0 0,.slice none 0 0],.int .i64 q0]) ?_ rfl ⟨⟨_,by rw [HQV.out.1],by rw [HQV.out.2,bF];exact HRA.out⟩,?_⟩
    ·simp [results,Tryz.results41,go_sem,Y.out.1,Y.out.2.1,Y.out.2.2]
    ·exact ((HK5.out.store HL5.out _ _).store HL5.out _ _).store HL5.out _ _
 ·have HQV:Hid (QQ.1=11/\QQ.2=0):=ae (by rw [HQQ.out,if_pos hpv];exact ⟨rfl,rfl⟩);have hne:((pn:Int) != (V:Int))=true:=by simp;omega
  have hne2:¬ (pn:Int)=(V:Int):=by omega
  go_enter Tryz.func41,Tryz.ntmps41;go_wp2_with fail;rw [<-HW1.out,<-HS1.out,<-HW2.out];obtain ⟨g0,g1,g2⟩:=bw HR2.out;refine bodyPost_ret (v:=.tuple #[.agg #[.bool false,.slice none 0 0,.slice none 0 0],.int .i64 11]) ?_ rfl ⟨⟨_,by rw [HQV.out.1];rfl,by rw [HQV.out.2,bF];exact ⟨_,_,rfl,ah.nil _,ah.nil _⟩⟩,HK2.out⟩;simp [results,Tryz.results41,go_sem,g0,g1,g2]
section
open Go.RowKit Go.ChangeShapes Go.WideShapes Go.ChangeAt Go.Joins Go.Deep
theorem oN (V s t:Nat) (nodes:List Nd) (h:∀ i,i<V->s.testBit i=t.testBit i):∀ k,cQ V s nodes k=cQ V t nodes k:=by
 intro k;induction k with
 | zero=>unfold cQ;exact List.map_congr_left fun i hi=>h i (by simpa using hi)
 | succ k ih=>unfold cQ;rw [ih]
end
def sO (V:Nat) (c:Nat × Nat):Prop:=(∀ j,c.1.testBit j=true->j<V)/\∀ j,c.2.testBit j=true->j<V
theorem uk {V b:Nat} {c:Nat × Nat} (hb:∀ j,b.testBit j=true->j<V) (hc:sO V c):∀ d∈cj c b,sO V d:=by
 have hel:∀ {i x:Nat},i∈dJ x->x.testBit i=true:=fun {i x} h=>(List.mem_filter.1 h).2
 intro d hd;unfold cj at hd;split at hd
 ·rw [List.mem_singleton] at hd;rw [hd];exact hc
 ·have hlow:∀ i∈dJ (aD b c.1),i<V:=fun i hi=>by
   have:=hel hi;rw [bA,Bool.and_eq_true] at this;exact hb i this.1
  refine jN (Pr:=sO V) (gp _) (fun i hi=>?_) ?_ d hd
  ·have:=hel hi;rw [bA,Bool.and_eq_true] at this;simpa using this.2
  ·intro y' i hi h4 _ _;refine ⟨fun j hj=>?_,fun j hj=>?_⟩
   ·rcases h4 j hj with h | h
    ·exact hc.1 j h
    ·exact hlow j h
   ·replace hj:(c.2 ||| 2^i).testBit j=true:=hj;rw [Nat.testBit_or,Nat.testBit_two_pow,Bool.or_eq_true,decide_eq_true_eq] at hj;rcases hj with h | rfl
    ·exact hc.2 j h
    ·exact hlow i hi
theorem oW {V x:Nat} (h:∀ j,x.testBit j=true->j<V):x<2^V:=Nat.lt_pow_two_of_testBit x fun i hi=>by
 cases hx:x.testBit i with
 | false=>rfl
 | true=>have:=h i hx;omega
theorem qd {V x:Nat} (h:x<2^V):∀ j,x.testBit j=true->j<V:=fun j hj=>by
 have h1:=Nat.ge_two_pow_of_testBit hj;exact (Nat.pow_lt_pow_iff_right (by omega:1<2)).1 (Nat.lt_of_le_of_lt h1 h)
theorem yT {L:List Nat} {ps:List Rw} {out:List (Nat × Nat)} {V:Nat} (hb24:∀ b∈L,b<16777216) (hbV:∀ b∈L,b<2^V) (hV24:V<=24) (hV:ps.length=V) (hbad:eS ps=false) (h:cO L=some out) :
  prbD (aP out) ps=(0,bd ps out out.length):=by
 have hbits:=mJ (Pr:=sO V) (fun b hb c hc d hd=>uk (qd (hbV b hb)) hc d hd) (fun b hb=>⟨qd (hbV b hb),fun j hj=>by simp at hj⟩) h
 have e:(aP out).map jl=out:=by
  unfold aP;rw [List.map_map];exact (List.map_congr_left fun c _=>lH c).trans (List.map_id out)
 unfold prbD;rw [if_neg (by rw [tN hb24 h];simp),e];unfold lP;rw [if_neg,if_neg (by rw [hbad];simp)];intro hany;obtain ⟨c,hc,h1⟩:=List.any_eq_true.1 hany;have h2:=of_decide_eq_true h1;have h3:c.1 ||| c.2<2^V:=Nat.or_lt_two_pow (oW (hbits c hc).1) (oW (hbits c hc).2)
 have h4:=Lib.bitLen_le (c.1 ||| c.2) V (by omega) h3;unfold mt at h2;omega
theorem tg (r V:Nat):subN (r % 2^V) r=true:=bk.2 fun i hi=>by
 rw [Nat.testBit_mod_two_pow] at hi;simp at hi;exact hi.2
theorem qL {V T:Nat} {f:Fm} (hok:Ok f V T) (hs:gG V T f=true) {p:List Nat × List Nat} (h:kj V T f.nodes=some p):∀ r∈p.1,r<2^V:=by
 obtain ⟨h1,_,h3⟩:=kl hok hs h;intro r hr;have hv:=(h3 r).1 ⟨r,hr,cN r⟩;have he:jB V (r % 2^V) f.nodes=jB V r f.nodes:=oN V _ _ f.nodes (fun i hi=>by rw [Nat.testBit_mod_two_pow];simp [hi]) _;rw [<-he] at hv;obtain ⟨t,ht,hsub⟩:=(h3 _).2 hv
 have htr:t=r:=by
  have hr2:=hr;rw [<-h1.1] at hr2;exact ((ck p.1 r).1 hr2).2 t ht (fo hsub (tg r V))
 subst htr;have:=fL hsub (tg t V);rw [this];exact Nat.mod_lt _ (Nat.two_pow_pos V)
theorem pP (l:List Nat):bz (aO l)=l:=by
 unfold bz aO;rw [List.map_map];exact (List.map_congr_left fun c _=>rfl).trans (List.map_id l)
theorem zf {q0:Nat} {X:List Int} {V:Nat} {ps:List Rw} (h:q0<=100):(kN q0 X V ps).1<=100:=by
 have:=nV X;unfold kN;split
 ·simp
 ·split
  ·simp
  ·split
   ·exact h
   ·split
    ·show (ce X).1<=100;omega
    ·simp
theorem vj (v pv:Value) (f:Fm) (V T:Nat) (ps:List Rw) (w:World) (hv:aQ w v f.nodes) (hok:Ok f V T) (hck:du f=0) (ht:f.top<=9223372036854775807) (hp:RatsAt w pv ps) (hp3:∀ r∈ps,r.Short 3) (hp30:ps.length<=30) :
  ∃ (Q:Nat) (R:Rat),Q<=100/\∀ W,af w W ->
   (Calls Tryz.prog 32 #[.agg #[.int .i64 V,v,.int .i64 T],pv] W fun e w'=>(∃ v',e=.returned (.tuple #[v',bI Q])/\RatAt w' v' (aj R))/\af W w') /\
   (Calls Tryz.prog 41 #[.agg #[.int .i64 V,v,.int .i64 T],pv] W fun e w'=>(∃ v',e=.returned (.tuple #[v',.int .i64 Q])/\RatAt w' v' (aj R))/\af W w'):=by
 have hs:∃ a n c,v=.slice a n c:=by obtain ⟨a,c,h,_⟩:=hv;exact ⟨a,_,c,h⟩
 have hfm:jE v f=.agg #[.int .i64 V,v,.int .i64 T]:=by unfold jE;rw [hok.vars,hok.top]
 have hc:∀ W,af w W->Calls Tryz.prog 30 #[.agg #[.int .i64 V,v,.int .i64 T]] W fun e w'=>e=.returned .nilIface/\af W w':=fun W hk=>by
  have h:=gJ v f W (hv.kept hk) ht;rw [hck,dd,hfm] at h;exact h
 have go:∀ (q0:Nat) (X:List Int),q0<=100->((ce X).1=0->∀ c∈(ce X).2,c.1<16777216/\c.2<16777216) ->
   (ps.length=V->eS ps=false->q0=0->(ce X).1=0->prbD (aP (ce X).2) ps=(0,bd ps (ce X).2 (ce X).2.length)) ->
   (∀ W,af w W->Calls Tryz.prog 34 #[.agg #[.int .i64 V,v,.int .i64 T]] W fun e w'=>(∃ v',e=.returned (.tuple #[v',bI q0])/\aq w' v' X)/\af W w') ->
   (∀ W,af w W->Calls Tryz.prog 63 #[.agg #[.int .i64 V,v,.int .i64 T]] W fun e w'=>(∃ v',e=.returned (.tuple #[v',.int .i64 q0])/\aq w' v' X)/\af W w') ->
   ∃ (Q:Nat) (R:Rat),Q<=100/\∀ W,af w W ->
   (Calls Tryz.prog 32 #[.agg #[.int .i64 V,v,.int .i64 T],pv] W fun e w'=>(∃ v',e=.returned (.tuple #[v',bI Q])/\RatAt w' v' (aj R))/\af W w') /\
   (Calls Tryz.prog 41 #[.agg #[.int .i64 V,v,.int .i64 T],pv] W fun e w'=>(∃ v',e=.returned (.tuple #[v',.int .i64 Q])/\RatAt w' v' (aj R))/\af W w'):=by
  intro q0 X hq hX hPT hA hB
  exact ⟨(kN q0 X V ps).1,(kN q0 X V ps).2,zf hq,fun W hk =>
   ⟨vS v pv V T q0 X ps W hs hq (fun W' hk'=>hc W' (hk.trans hk')) hX (fun W' hk'=>hA W' (hk.trans hk')) (hp.kept hk) hp3 hp30,
    uM v pv V T q0 X ps W hs hq hPT (fun W' hk'=>hB W' (hk.trans hk')) (hp.kept hk) hp3 hp30⟩⟩
 rcases zF v f V T hok hck hs with ⟨q,hq,hfc⟩ | ⟨p,hl,hsy,hfc⟩
 ·have hq0:q≠0/\q<=100:=by rcases hq with ⟨rfl,_⟩ | ⟨rfl,_⟩ <;> exact ⟨by omega,by omega⟩
  refine go q [] hq0.2 (fun h c hc=>?_) (fun _ _ h=>absurd h hq0.1) (fun W hk=>(hfc W (hv.kept hk)).1.mono fun _ w' ⟨h1,h2⟩=>⟨⟨_,h1,aq.nil w'⟩,h2⟩) (fun W hk=>(hfc W (hv.kept hk)).2.mono fun _ w' ⟨h1,h2⟩=>⟨⟨_,h1,aq.nil w'⟩,h2⟩);have h3:=jd (L:=bz []) (by intro b hb;cases hb) (gK h) c hc;exact ⟨h3.1,h3.2.1⟩
 ·obtain ⟨hg,hm,_⟩:=kl hok hsy hl;have hb24:∀ b∈p.1,b<16777216:=fun b hb=>by have:=hm b hb;unfold Mk at this;omega
  refine go 0 (aO p.1) (by omega) (fun h c hc=>?_) (fun hV hbad _ h=>?_) (fun W hk=>by rw [dd];exact (hfc W (hv.kept hk)).1) (fun W hk=>(hfc W (hv.kept hk)).2)
  ·have h2:=gK h;rw [pP] at h2;have h3:=jd hb24 h2 c hc;exact ⟨h3.1,h3.2.1⟩
  ·have h2:=gK h;rw [pP] at h2;exact yT hb24 (qL hok hsy hl) hok.v24 hV hbad h2
theorem vJ (b:Int) (x:Nd):dH b x<=100:=by
 unfold dH;split
 ·omega
 ·split
  ·omega
  ·split
   ·omega
   ·unfold gi;split
    ·split <;> omega
    ·split
     ·split <;> omega
     ·split <;> omega
theorem q_ (xs:List Nd):∀ b,dq b xs<=100:=by
 induction xs with
 | nil=>intro b;unfold dq;omega
 | cons x xs ih =>
  intro b;unfold dq;split
  ·exact ih _
  ·exact vJ b x
theorem yp (f:Fm):du f<=100:=by
 unfold du;split
 ·omega
 ·split
  ·omega
  ·split
   ·split <;> omega
   ·exact q_ _ _
theorem vT (v pv:Value) (f:Fm) (q:Nat) (hq:q≠0) (w:World) (hs:∃ a n c,v=.slice a n c) (hr:∀ W,af w W->Calls Tryz.prog 30 #[jE v f] W fun e w'=>e=.returned (bI q)/\af W w') :
  Calls Tryz.prog 32 #[jE v f,pv] w fun e w'=>(∃ v',e=.returned (.tuple #[v',bI q])/\RatAt w' v' (aj 0))/\af w w':=by
 obtain ⟨a,n,c,rfl⟩:=hs;obtain ⟨V,nodes,T⟩:=f;have HCH:Hid (∀ W,af w W->Calls Tryz.prog 30 #[.agg #[.int .i64 V,.slice a n c,.int .i64 T]] W fun e w'=>e=.returned (bI q)/\af W w'):=ae hr;rw [bJ hq] at *;show Calls _ _ #[.agg #[.int .i64 V,.slice a n c,.int .i64 T],pv] _ _;obtain ⟨w1,hw1⟩:∃ w1,w1=w.alloc (.cells #[.int .i64 V,.slice a n c,.int .i64 T] 41):=⟨_,rfl⟩;have HS1:Hid (w1.heap.size=w.heap.size+1):=ae (by rw [hw1];simp);have hk1:af w w1:=by rw [hw1];exact (af.refl _).alloc _
 obtain ⟨w2,hw2⟩:∃ w2,w2=w1.alloc (.cells #[.bool false,.slice none 0 0,.slice none 0 0] 29):=⟨_,rfl⟩;have HR2:Hid (ai w2 w1.heap.size 29 [.bool false,.slice none 0 0,.slice none 0 0]):=ae (by rw [hw2];exact ai.made w1 #[.bool false,.slice none 0 0,.slice none 0 0] 29);have HF2:Hid (a_ w2 w1.heap.size [.bool false,.slice none 0 0,.slice none 0 0]):=ae (by rw [hw2];exact a_.made w1 #[.bool false,.slice none 0 0,.slice none 0 0] 29);have HK2:Hid (af w w2):=ae (by rw [hw2];exact hk1.alloc _);have HW1:=ae hw1;have HW2:=ae hw2;clear hw1 hw2 hk1 hr;go_enter Tryz.func32,Tryz.ntmps32;go_wp2_with fail;rw [<-HW1.out,<-HS1.out,<-HW2.out];refine (HCH.out _ HK2.out).mono ?_;rintro e w3 ⟨rfl,hk3⟩;have HK3:=ae (HK2.out.trans hk3);have hr5:=HR2.out.kept hk3;have HF3:=ae (HF2.out.kept hk3);obtain ⟨y0,y1,y2,hra⟩:=az (r:=⟨false,[],[]⟩) hr5 HF3.out (ah.nil _) (ah.nil _);have Y:=ae (And.intro y0 (And.intro y1 y2));have HRA:=ae hra;have g0:=hr5.cell (i:=0) (by simp);have g1:=hr5.cell (i:=1) (by simp);have g2:=hr5.cell (i:=2) (by simp);have f0:=hr5.free 0;have f1:=hr5.free 1;have f2:=hr5.free 2;have hlt5:=hr5.lt;have HL5:Hid (w.heap.size<=w1.heap.size):=ae (by have:=HS1.out;omega);clear hr5 y0 y1 y2 hra hk3;go_wp2;refine bodyPost_ret (v:=.tuple #[.agg #[.bool false,.slice none 0 0,.slice none 0 0],.iface 60 (.int .i64 q)]) ?_ rfl ⟨⟨_,rfl,by rw [bF];exact HRA.out⟩,?_⟩
 ·simp [results,Tryz.results32,go_sem,Y.out.1,Y.out.2.1,Y.out.2.2]
 ·exact ((HK3.out.store HL5.out _ _).store HL5.out _ _).store HL5.out _ _
theorem rp (v pv:Value) (f:Fm) (ps:List Rw) (w:World) (hv:aQ w v f.nodes) (hfo:zy f) (hp:eh w pv ps) :
  Calls Tryz.prog 9 #[jE v f,pv] w fun e w'=>e=.returned (.bool true)/\af w w':=by
 have ht:f.top<=9223372036854775807:=hfo.2.1.2;have hh:∀ W,af w W->Calls Tryz.prog 40 #[jE v f] W fun e w'=>(∃ b,e=.returned (.bool b))/\af W w':=fun W hk=>t_ v f W (hv.kept hk)
 have hc:∀ W,af w W->Calls Tryz.prog 30 #[jE v f] W fun e w'=>e=.returned (bI (du f))/\af W w':=fun W hk=>gJ v f W (hv.kept hk) ht
 have hrc:∀ W,af w W->Calls Tryz.prog 21 #[jE v f] W fun e w'=>e=.returned (.int .i64 (du f))/\af W w':=fun W hk=>r_ v f W (hv.kept hk) ht
 have HHR:=ae fun (h30:ps.length<=30) (hs3:∀ r∈ps,r.Short 3) (hp2:RatsAt w pv ps) V T (hok:Ok f V T) (hck:du f=0)=>vj v pv f V T ps w hv hok hck ht hp2 hs3 h30
 have hs:∃ a n c,v=.slice a n c:=by obtain ⟨a,c,h,_⟩:=hv;exact ⟨a,_,c,h⟩
 have hq9:du f<=100:=yp f;have HER:=ae fun (hq:du f≠0) W (hk:af w W)=>vT v pv f (du f) hq W hs fun W' hk'=>hc W' (hk.trans hk')
 have HOK:=ae fun (h:du f=0)=>AF f h
 obtain ⟨q,hq⟩:∃ q,q=du f:=⟨_,rfl⟩;rw [<-hq] at hrc hq9 HER HOK HHR;have HL:=ae (fun W (h:af w W)=>uf pv ps W (hp.kept h));have HRV:=ae hp;obtain ⟨a,n,c,rfl⟩:=hs;obtain ⟨pa,pc,hps,_⟩:=id hp;obtain ⟨pn,hpn⟩:∃ pn,pn=ps.length:=⟨_,rfl⟩;rw [<-hpn] at hps;subst hps;obtain ⟨vars,nodes,top⟩:=f;have HH:Hid (∀ W,af w W->Calls Tryz.prog 40 #[.agg #[.int .i64 vars,.slice a n c,.int .i64 top]] W fun e w'=>(∃ b,e=.returned (.bool b))/\af W w'):=ae hh;have HRC:Hid (∀ W,af w W->Calls Tryz.prog 21 #[.agg #[.int .i64 vars,.slice a n c,.int .i64 top]] W fun e w'=>e=.returned (.int .i64 q)/\af W w'):=ae hrc;have HA:Hid (∀ W,Calls Tryz.prog 39 #[] W fun e w'=>e=.returned (.bool true)/\af W w'):=ae fun W=>qU W
 show Calls _ _ #[.agg #[.int .i64 vars,.slice a n c,.int .i64 top],.slice pa pn pc] _ _;obtain ⟨w0,hw0⟩:∃ w0,w0=w.alloc (.cells #[.int .i64 vars,.slice a n c,.int .i64 top] 41):=⟨_,rfl⟩;have HX0:Hid (ai w0 w.heap.size 41 [.int .i64 vars,.slice a n c,.int .i64 top]):=ae (by rw [hw0];exact ai.made w #[.int .i64 vars,.slice a n c,.int .i64 top] 41);have HK0:Hid (af w w0):=ae (by rw [hw0];exact (af.refl _).alloc _);have HW0:=ae hw0;have HQ9:=ae hq9;clear hv hh hc hrc hq ht hfo hp hw0 hpn hq9;go_enter Tryz.func9,Tryz.ntmps9;go_wp2_with fail;rw [<-HW0.out];refine (HA.out _).mono ?_;rintro e w1 ⟨rfl,hk1⟩;have HX1:=ae (HX0.out.kept hk1);have HK1:=ae (HK0.out.trans hk1);obtain ⟨c0,c1,c2⟩:=bw HX1.out;clear hk1;go_wp2_with fail;refine (HH.out _ HK1.out).mono ?_;rintro e w2 ⟨⟨b,rfl⟩,hk2⟩;have HX2:=ae (HX1.out.kept hk2);have HK2:=ae (HK1.out.trans hk2);clear hk2 c0 c1 c2;cases b with
 | true =>
  go_wp2_with fail;refine (HA.out _).mono ?_;rintro e w3 ⟨rfl,hk3⟩;go_wp2;go_ret;exact ⟨rfl,HK2.out.trans hk3⟩
 | false =>
  go_wp2_with fail;refine (HL.out _ HK2.out).mono ?_;rintro e w3 ⟨⟨u2,rfl,bb,rfl,hbb⟩,hk3⟩;have HX3:=ae (HX2.out.kept hk3);have HK3:=ae (HK2.out.trans hk3);have HBB:=ae hbb;clear hk3 hbb;cases bb with
  | true =>
   go_wp2_with fail;refine (HA.out _).mono ?_;rintro e w4 ⟨rfl,hk4⟩;go_wp2;go_ret;exact ⟨rfl,HK3.out.trans hk4⟩
  | false =>
   obtain ⟨h30,hs3⟩:=HBB.out rfl;have hpv:=HRV.out.small fun r hr=>⟨Nat.le_trans (hs3 r hr).1 (by omega),Nat.le_trans (hs3 r hr).2 (by omega)⟩
   have HBO:=ae (HHR.out h30 hs3 hpv);clear h30 hs3 hpv;obtain ⟨c0,c1,c2⟩:=bw HX3.out;by_cases hq0:q=0
   ·subst hq0;obtain ⟨V,T,hok⟩:=HOK.out rfl;obtain ⟨Q,R,hQ,hT⟩:=HBO.out V T hok rfl;have e1:vars=(V:Int):=hok.vars;have e2:top=(T:Int):=hok.top;subst e1 e2;have HT:=ae hT;have HNU:Hid (∀ W,Calls Tryz.prog 17 #[bI Q] W fun e w'=>e=.returned (.int .i64 Q)/\W=w'):=ae fun W=>wW Q W (by omega)
    have HTA:=ae (fun W h=>(HT.out W h).1);have HTB:=ae (fun W h=>(HT.out W h).2);obtain ⟨r,hr⟩:∃ r,r=aj R:=⟨_,rfl⟩;rw [<-hr] at HTA HTB;clear hok hQ hT hr;go_wp2_with fail;refine (HTA.out _ HK3.out).mono ?_;rintro e w4 ⟨⟨v4,rfl,hv4⟩,hk4⟩;have HX4:=ae (HX3.out.kept hk4);have HK4:=ae (HK3.out.trans hk4);obtain ⟨u1,u2,rfl,h1,h2⟩:=hv4;obtain ⟨a1,c1',rfl⟩:=h1.shape;obtain ⟨a2,c2',rfl⟩:=h2.shape;obtain ⟨w5,hw5⟩:∃ w5,w5=w4.alloc (.cells #[.bool r.neg,.slice a1 r.num.length c1',.slice a2 r.den.length c2'] 29):=⟨_,rfl⟩;have HV5:Hid (RatCell w5 w4.heap.size r):=ae (by rw [hw5];exact RatCell.made h1 h2);have HK5:Hid (af w w5):=ae (by rw [hw5];exact HK4.out.alloc _);have HX5:Hid (ai w5 w.heap.size 41 [.int .i64 V,.slice a n c,.int .i64 T]):=ae (by rw [hw5];exact HX4.out.kept ((af.refl _).alloc _));have HW5:=ae hw5;clear h1 h2 hk4 c0 c1 c2 hw5;obtain ⟨c0,c1,c2⟩:=bw (HX4.out.kept ((af.refl w4).alloc (.cells #[.bool r.neg,.slice a1 r.num.length c1',.slice a2 r.den.length c2'] 29)));generalize r.neg=zR1 at HW5 c0 c1 c2⊢;generalize r.num.length=zR2 at HW5 c0 c1 c2⊢;generalize r.den.length=zR3 at HW5 c0 c1 c2⊢;go_wp2_with fail;rw [<-HW5.out];refine (HRC.out _ HK5.out).mono ?_;rintro e w6 ⟨rfl,hk6⟩;have HX6:=ae (HX5.out.kept hk6);have HK6:=ae (HK5.out.trans hk6);have HV6:=ae (HV5.out.kept hk6);clear hk6 c0 c1 c2
    obtain ⟨c0,c1,c2⟩:=bw HX6.out;go_wp2_with fail;refine (HTB.out _ HK6.out).mono ?_;rintro e w7 ⟨⟨v7,rfl,hv7⟩,hk7⟩;have HK7:=ae (HK6.out.trans hk7);have HV7:=ae (HV6.out.kept hk7);obtain ⟨u3,u4,rfl,h3,h4⟩:=hv7;obtain ⟨a3,c3,rfl⟩:=h3.shape;obtain ⟨a4,c4,rfl⟩:=h4.shape;obtain ⟨w8,hw8⟩:∃ w8,w8=w7.alloc (.cells #[.bool r.neg,.slice a3 r.num.length c3,.slice a4 r.den.length c4] 29):=⟨_,rfl⟩;have HY8:Hid (RatCell w8 w7.heap.size r):=ae (by rw [hw8];exact RatCell.made h3 h4);have HV8:Hid (RatCell w8 w4.heap.size r):=ae (by rw [hw8];exact HV7.out.kept ((af.refl _).alloc _));have HK8:Hid (af w w8):=ae (by rw [hw8];exact HK7.out.alloc _);have HW8:=ae hw8;clear h3 h4 hk7 c0 c1 c2 hw8;generalize r.neg=zS1 at HW8⊢;generalize r.num.length=zS2 at HW8⊢;generalize r.den.length=zS3 at HW8⊢;go_wp2_with fail;rw [<-HW8.out];refine (HNU.out _).mono ?_;rintro e w9 ⟨rfl,rfl⟩;obtain ⟨a5,c5,a6,c6,⟨x0,x3,x4⟩,_,hgl,hxa⟩:=HV8.out.at;obtain ⟨a7,c7,a8,c8,⟨y0,y3,y4⟩,_,hgy,hya⟩:=HY8.out.at;have HRT:=ae (xr _ _ r w8 hxa hya);clear hxa hya;generalize r.neg=zT1 at x0 y0 HRT;generalize r.num.length=zT2 at x3 y3 HRT;generalize r.den.length=zT3 at x4 y4 HRT;go_wp2_with fail;refine HRT.out.mono ?_;rintro e w10 ⟨rfl,hk10⟩;go_wp2;go_ret;exact ⟨rfl,HK8.out.trans hk10⟩
   ·have HNU:Hid (∀ W,Calls Tryz.prog 17 #[bI q] W fun e w'=>e=.returned (.int .i64 q)/\W=w'):=ae fun W=>wW q W (by have:=HQ9.out;omega)
    have HTE:Hid (∀ W,af w W->Calls Tryz.prog 32 #[.agg #[.int .i64 vars,.slice a n c,.int .i64 top],.slice pa pn pc] W fun e w'=>(∃ v',e=.returned (.tuple #[v',bI q])/\RatAt w' v' (aj 0))/\af W w'):=ae fun W hk=>HER.out hq0 W hk
    have HSG:Hid (∀ W u,RatAt W u (aj 0)->Calls Tryz.prog 22 #[u] W fun e w'=>e=.returned (.int .i64 0)/\af W w'):=ae fun W u hu=>by
     have h1:=uU u (aj 0) W hu ⟨Nat.zero_le _,Nat.zero_le _⟩;rw [aA] at h1;exact h1
    have b1:((q:Int) != 0)=true:=by simp;omega
    have b2:¬ (q:Int)=0:=by omega
    go_wp2_with fail;refine (HTE.out _ HK3.out).mono ?_;rintro e w4 ⟨⟨v4,rfl,hv4⟩,hk4⟩;have HX4:=ae (HX3.out.kept hk4);have HK4:=ae (HK3.out.trans hk4);obtain ⟨u1,u2,rfl,h1,h2⟩:=hv4;obtain ⟨a1,c1',rfl⟩:=h1.shape;obtain ⟨a2,c2',rfl⟩:=h2.shape;obtain ⟨w5,hw5⟩:∃ w5,w5=w4.alloc (.cells #[.bool (aj 0).neg,.slice a1 (aj 0).num.length c1',.slice a2 (aj 0).den.length c2'] 29):=⟨_,rfl⟩;have HV5:Hid (RatCell w5 w4.heap.size (aj 0)):=ae (by rw [hw5];exact RatCell.made h1 h2);have HK5:Hid (af w w5):=ae (by rw [hw5];exact HK4.out.alloc _);have HX5:Hid (ai w5 w.heap.size 41 [.int .i64 vars,.slice a n c,.int .i64 top]):=ae (by rw [hw5];exact HX4.out.kept ((af.refl _).alloc _));have HW5:=ae hw5;clear h1 h2 hk4 c0 c1 c2 hw5;obtain ⟨c0,c1,c2⟩:=bw (HX4.out.kept ((af.refl w4).alloc (.cells #[.bool (aj 0).neg,.slice a1 (aj 0).num.length c1',.slice a2 (aj 0).den.length c2'] 29)));generalize (aj 0).neg=zR1 at HW5 c0 c1 c2⊢;generalize (aj 0).num.length=zR2 at HW5 c0 c1 c2⊢;generalize (aj 0).den.length=zR3 at HW5 c0 c1 c2⊢;go_wp2_with fail;rw [<-HW5.out];refine (HRC.out _ HK5.out).mono ?_;rintro e w6 ⟨rfl,hk6⟩;have HX6:=ae (HX5.out.kept hk6);have HK6:=ae (HK5.out.trans hk6);have HV6:=ae (HV5.out.kept hk6);clear hk6 c0 c1 c2;obtain ⟨c0,c1,c2⟩:=bw HX6.out;go_wp2_with fail;refine (HNU.out _).mono ?_;rintro e w7 ⟨rfl,rfl⟩
    obtain ⟨a5,c5,a6,c6,⟨x0,x3,x4⟩,_,hgl,hxa⟩:=HV6.out.at;have HXA:=ae hxa;clear hxa;generalize (aj 0).neg=zT1 at x0 HXA;generalize (aj 0).num.length=zT2 at x3 HXA;generalize (aj 0).den.length=zT3 at x4 HXA;go_wp2_with fail;refine (HSG.out _ _ HXA.out).mono ?_;rintro e w8 ⟨rfl,hk8⟩;go_wp2;go_ret;exact ⟨rfl,HK6.out.trans hk8⟩
section
open Go.RowKit Go.ChangeShapes Go.WideShapes Go.ChangeAt Go.Joins Go.Deep
def AQ (w:World) (v:Value) (L:List (Int × Int)):Prop :=
 ∃ (a:Option Addr) (c:Nat),v=.slice a L.length c/\(L.length<=c/\(a=none->c=0))/\L.length<=140737488355328 /\
  ∀ i (h:i<L.length),∃ b o,a=some ⟨b,o,none⟩/\w.rangeAt b (o+i*2) (bG L[i])
section
variable {H:Type} {enc:TypeId × Value->H} {W:World} {base:Nat}
theorem xt {v:Value} {d:DataW H} {p:List MemPlace} (hv:Value.okWide Tryz.prog W .any base 23 v) (hb:∀ n∈d.weights Tryz.prog 23,n<=reachBytes)
  (h:DataW.Trod enc Tryz.prog W 0 (fun _=>true) true 23 v d p):∃ xs:List Rw,eh W v xs:=by
 obtain ⟨fuel,h1f⟩:=h;obtain ⟨u,xs,e3,hps⟩:=uL hb h1f;obtain ⟨a,c,rfl,_⟩:=id hps;obtain ⟨a2,n2,c2,h5⟩:=okWide_slice Tryz.underlying23 hv;subst h5;have e4:Value.slice a xs.length c=.slice a2 n2 c2:=by simpa [Value.cells] using e3.symm
 rw [<-e4];exact ⟨xs,hps⟩
end
end
section
open Go.RowKit Go.ChangeShapes Go.WideShapes Go.ChangeAt Go.Joins Go.Deep
theorem zX {s:ChangeSpec} (F:FuncId) (fn:Func) (hs1:s.vars=[]) (hs2:∀ (H:Type) (d1 d2:DataW H),s.fn H [d1,d2]={ results:=[.lit (.bool true)],args:=[d1,d2] })
  (hp:fn.params=#[41,23]) (hr:fn.resultTypes=#[4])
  (walk:∀ (W:World) (u v:Value) (f:Fm) (ps:List Rw),aQ W u f.nodes->zy f->eh W v ps->Calls Tryz.prog F #[jE u f,v] W fun e w'=>e=.returned (.bool true)/\af W w')
  {H:Type} {enc:TypeId × Value->H} (W:World) (base:Nat) (args:Array Value) (ds gs:List (DataW H)) (before:List MemPlace)
  (hval:∀ (j:Nat) t v,fn.params[j]?=some t->args[j]?=some v->Value.okWide Tryz.prog W .any base t v)
  (hW:DataW.Whole enc Tryz.prog fn.params.toList s.vars false W args.toList ds gs before)
  (hsz:(DataW.weightsEach Tryz.prog (fn.params.toList++s.plain.varTypes Tryz.prog) (ds++gs)).all (·<=reachBytes)=true) :
  Calls Tryz.prog F args W fun e W'=>∃ v,e=.returned v/\s.post enc Tryz.prog fn false true false false W args v W':=by
 have hW':=hW;obtain ⟨p,q,hA,hV,rfl,hfz,_⟩:=hW;rw [hs1] at hV;obtain ⟨rfl,rfl⟩:=trodVars_none hV;rw [hp] at hA hval hsz;obtain ⟨v0,v1,d0,d1,p0,p1,rfl,rfl,rfl,h0,h1⟩:=trodAll_two hA;have h0k:=h0;have h1k:=h1
 obtain ⟨u,f,rfl,hx,hfo⟩:=yB (hval 0 _ _ rfl rfl) (fun n hn=>by
  have:=List.all_eq_true.1 hsz n (DataW.weights_mem_each (j:=0) rfl rfl n hn);simpa using this) h0
 obtain ⟨ps,hps⟩:=xt (hval 1 _ _ rfl rfl) (fun n hn=>by
  have:=List.all_eq_true.1 hsz n (DataW.weights_mem_each (j:=1) rfl rfl n hn);simpa using this) h1
 have hlt:∀ x∈p0++p1,x.block<W.heap.size:=fun x hx=>hW'.lt x (by simpa using hx)
 refine (walk W u v1 f ps hx hfo hps).mono fun e W' ⟨he,hk⟩=>?_
 subst he;refine ⟨_,rfl,[d0,d1],[],(p0++p1)++[],[],p0++p1,[],hW',?_,?_,?_,Below.frame hk _,fun h=>by cases h⟩
 ·rw [hr];simp only [List.append_nil,hs2];exact trodAll_mk1 (shut_bool Tryz.underlying4 _)
 ·rw [hp];simp only [List.append_nil,hs2];exact trodAll_mk2 (Below.trod pC (by kernel_rfl) (of_decide_eq_true (by kernel_rfl)) h0k hk (fun x hx=>hlt x (by simp [hx]))) (Below.trod pC (by kernel_rfl) (of_decide_eq_true (by kernel_rfl)) h1k hk (fun x hx=>hlt x (by simp [hx])))
 ·rw [hs1];simp only [List.append_nil,hs2];rfl
end
def chW (l:List Nat):List Char:=l.map Char.ofNat
theorem oP (w r:List Char) (h:∀ c∈w,c≠Char.ofNat 32):wordsSigns (w++Char.ofNat 32 :: r)=w :: wordsSigns r:=by
 induction w with
 | nil=>rfl
 | cons c w ih =>
  have hc:c≠Char.ofNat 32:=h c (by simp);have ih':=ih fun d hd=>h d (List.mem_cons_of_mem _ hd)
  show wordsSigns (c :: (w++Char.ofNat 32 :: r))=_;rw [wordsSigns.eq_3 _ _ (by intro e;exact hc e),ih']
theorem apart (l:List Nat) (h:((chW l).all fun c=>c != Char.ofNat 32)=true):∀ c∈chW l,c≠Char.ofNat 32:=by
 intro c hc;simpa using List.all_eq_true.1 h c hc
def wH:List Nat:=[104,97,114,110,101,115,115]
def wS:List Nat:=[57,97,53,50,54,49,57,97,53,52,57,56,57,48,52,98,56,100,102,50,101,57,56,100,101,56,55,100,51,49,48,56,52,98,52,52,98,99,102,55,49,97,98,97,49,48,97,53,99,56,51,101,98,49,97,49,98,49,51,53,97,97,51,48]
def wC:List Nat:=[99,117,116]
def wR:List Nat:=[97,116,32,102,97,117,108,116,108,105,110,101,47,102,97,117,108,116,108,105,110,101,108,97,119,52,48,46,69,115,97,114,121,80,114,111,100,117,99,116,115,32,102,97,117,108,116,108,105,110,101,47,102,97,117,108,116,108,105,110,101,108,97,119,52,48,46,69,115,97,114,121,66,111,117,110,100,115,32,102,97,117,108,116,108,105,110,101,47,102,97,117,108,116,108,105,110,101,108,97,119,52,48,46,69,115,97,114,121,76,105,107,101,108,105,101,115,116,32,102,97,117,108,116,108,105,110,101,47,102,97,117,108,116,108,105,110,101,108,97,119,52,48,46,69,115,97,114,121,82,105,115,101,115,32,102,97,117,108,116,108,105,110,101,47,102,97,117,108,116,108,105,110,101,108,97,119,52,48,46,69,115,97,114,121,65,112,97,114,116,32,102,97,117,108,116,108,105,110,101,47,102,97,117,108,116,108,105,110,101,108,97,119,52,48,46,69,115,97,114,121,69,110,99,108,111,115,101,115,32,102,97,117,108,116,108,105,110,101,47,102,97,117,108,116,108,105,110,101,108,97,119,51,56,46,68,105,115,106,111,105,110,116,84,111,112,115]
theorem xo:Tryz.prog.initOrder=String.ofList (chW wH++Char.ofNat 32 :: (chW wS++Char.ofNat 32 :: (chW wC++Char.ofNat 32 :: chW wR))):=by kernel_rfl
theorem qb:wordsSigns Tryz.prog.initOrder.toList=chW wH :: chW wS :: chW wC :: wordsSigns (chW wR):=by
 rw [xo,String.toList_ofList,oP _ _ (apart _ (by kernel_rfl)),oP _ _ (apart _ (by kernel_rfl)),oP _ _ (apart _ (by kernel_rfl))]
theorem gP:behindMainWord (wordsSigns Tryz.prog.initOrder.toList)=chW wC :: wordsSigns (chW wR):=by
 rw [qb];generalize wordsSigns (chW wR)=W;have h:((chW wH == "harness".toList||chW wH == "ownmain".toList)&&isSumSigns (chW wS))=true:=by kernel_rfl
 unfold behindMainWord;exact if_pos h
theorem xl:Tryz.prog.laysLater=false:=by kernel_rfl
theorem rV:Tryz.prog.bearsReflect=false:=by kernel_rfl
theorem yQ:Tryz.prog.doorFits []=true:=by kernel_rfl
theorem p' (W:List (List Char)):stripLifts liftWords (chW wC :: W)=([],chW wC :: W):=by kernel_rfl
theorem vU {P:Program} {c:List Char} {W:List (List Char)} (h:behindMainWord (wordsSigns P.initOrder.toList)=c :: W) (hs:stripLifts liftWords (c :: W)=([],c :: W))
  (hc:c= "cut".toList) (hl:P.laysLater=false) (hr:P.bearsReflect=false) (hd:P.doorFits []=true):P.mayEnter=true:=by
 have hh:((c :: W).head? == some "cut".toList)=true:=by rw [hc];simp
 unfold Program.mayEnter;rw [h];simp only [hs,hl,hr,hd,hh];simp
theorem yK {P:Program} {h s:List Char} {W:List (List Char)} (hw:wordsSigns P.initOrder.toList=h :: s :: W) (hs:isSumSigns s=true) (hh:(h == "harness".toList)=true):P.mainIs=some (true,s):=by
 unfold Program.mainIs;rw [hw];simp only [hs,hh];rfl
theorem wJ {P:Program} {c:List Char} {W:List (List Char)} (h:behindMainWord (wordsSigns P.initOrder.toList)=c :: W) (hs:stripLifts liftWords (c :: W)=([],c :: W)):P.headLifts=[]:=by
 unfold Program.headLifts;rw [h,hs];dsimp only;split <;> rfl
theorem vZ {P:Program} {c:List Char} {W:List (List Char)} (h:behindMainWord (wordsSigns P.initOrder.toList)=c :: W) (hl:P.headLifts=[]) (hc:(c == "carried".toList)=false):P.liftsFinal=false:=by
 unfold Program.liftsFinal;rw [h,hl]
 have:((c :: W).head? == some "carried".toList)=false:=by
  rw [Bool.eq_false_iff] at hc⊢;intro e;apply hc;simpa using e
 simp only [this];rfl
theorem yL {P:Program} {c:List Char} {W:List (List Char)} (h:behindMainWord (wordsSigns P.initOrder.toList)=c :: W) (h0:(c == "gc".toList)=false) (h1:(c == "spec".toList)=false) (h2:(c == "cut".toList)=true):P.make=some .cut:=by
 unfold Program.make;rw [h];simp only [h0,h1,h2];rfl
theorem As:chW wC= "cut".toList:=by kernel_rfl
theorem xh:Tryz.prog.mayEnter=true:=vU gP (p' _) As xl rV yQ
theorem yR:Tryz.prog.mainIs=some (true,"9a52619a5498904b8df2e98de87d31084b44bcf71aba10a5c83eb1a1b135aa30".toList) :=
 (yK qb (by kernel_rfl) (by kernel_rfl)).trans (congrArg (fun x=>some (true,x)) (show chW wS=_ by kernel_rfl))
theorem xm:Tryz.prog.headLifts=[]:=wJ gP (p' _)
theorem xi:Tryz.prog.liftsFinal=false:=vZ gP xm (by kernel_rfl)
theorem yS:Tryz.prog.make=some .cut:=yL gP (by kernel_rfl) (by kernel_rfl) (by kernel_rfl)
section
open Go.RowKit Go.ChangeShapes Go.WideShapes Go.ChangeAt
theorem rU:(laidOutB Tryz.prog)=true:=by kernel_rfl
theorem ot:(mapsRowed Tryz.prog)=true:=by kernel_rfl
theorem xp:((Tryz.prog.stops == []))=true:=by kernel_rfl
theorem xk:((Tryz.prog.stopKnobs == []))=true:=by kernel_rfl
theorem xj:(Tryz.prog.stopsHeard)=true:=by kernel_rfl
theorem xn:true=Tryz.pinned.checked.prog.looks []:=by kernel_rfl
end
end Go.Proofs.YtofibjflkebkpaaGreatDoor
