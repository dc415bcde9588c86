import Derived.WalkKit
import Derived.WalkSpells
import Derived.WalkLawsBesides
import Derived.Deep.QuietTactic
import Derived.BigQuiet
import Derived.Lib.Hide
import Derived.Shelf.Abstract
import Derived.Deep.RegionWith
import Derived.Laws.AppendOwnNone
import Derived.Lib.AppendZerosOnto
import Derived.Lib.SliceRun
import Derived.Lib.SlicesCompact
import Derived.Shelf.SlSortCmp.NoneTotal
import Derived.Maps.OwnOps
import Derived.Maps.OwnSet
import Derived.Maps.Views
import Derived.Deep.MidRow
import Derived.Deep.RegionHeld3
import Derived.Deep.AppendLies
import Derived.Deep.RegionLaw
import Derived.IntWalk
import Derived.StillTailTactics
import Derived.RegionTactic
import Derived.BigRegion
import Derived.ChangeAlike
import Derived.Sort.LotD2
import Derived.Sort.LotA
import Derived.Shelf.SlSortCmp.PdqK
import Derived.Deep.DeepCutAuto
import Derived.Lib.ItoaNum
import Derived.Deep.LoopGhost
import Derived.ProofKit
import Derived.OpenShut
import Derived.SizedLaws
import Derived.Lib.SmallJoins
import Derived.Deep.Slices
import Derived.Deep.Fields
import Derived.Deep.Strs
import Derived.Carry
import Derived.Lib.BitFns
import Derived.Deep.CutBlock
import Derived.Laws.IdiomStrings
import Derived.Test.YthiemjodcklejaaGreatDoorDX10
import Derived.Test.YthiemjodcklejaaGreatDoorDX6
import Derived.Test.YthiemjodcklejaaGreatDoorDX7
import Derived.Test.YthiemjodcklejaaGreatDoorDX9
import Derived.Test.YthiemjodcklejaaGreatDoorDX4
import Derived.Test.YthiemjodcklejaaGreatDoorDX5
/-
  Walk: natural.Text of a number of nine digits at most.
-/
namespace Go.Proofs.YthiemjodcklejaaGreatDoor
open Go.RowKit

theorem info_str : (Tryz.prog.info? 9).map (fun i => (i.zero, i.size, i.bytes)) = some (some (.string .empty), 1, 16) := by kernel_rfl
theorem own_first {w : World} {B : Nat} {e : TypeId} {v y : Value} (h : w.ownsRow B e 1 v 1 [y]) : ∃ g cap, v = .slice (some ⟨g, 0, none⟩) 1 cap ∧ w.cell? ⟨g, 0, none⟩ = some y := by
  obtain ⟨_, h2⟩ := h
  rcases h2 with ⟨_, h⟩ | ⟨g, cap, cur, rfl, h5, h6, h7, h8, h9, h10⟩
  · cases h
  · refine ⟨g, cap, rfl, ?_⟩
    have e1 : (cur.toList.take 1)[0]? = some y := by
      have := congrArg (fun l => l[0]?) h10
      simpa using this
    simp only [World.cell?, h6]
    simpa using e1
theorem nw_one {n : Nat} (h0 : n ≠ 0) (h : n < 4294967296) : nw n = [n] := by
  rw [nw_pos h0, Nat.mod_eq_of_lt h, Nat.div_eq_of_lt h, nw_zero]
set_option maxRecDepth 100000 in
set_option maxHeartbeats 8000000 in
theorem ntext_any (v : Value) (xs : List Nat) (n : Nat) (l : List UInt8) (w : World) (hv : WdsAt w v xs) (hn : nv xs = n) (h0 : n ≠ 0) (h9 : n < 1000000000) (hl : Lib.trimLeftB (nineB n) 48 = l) (hne : l ≠ []) :
    Calls Tryz.prog 110 #[v] w fun e w' => e = .returned (.string ⟨l.toArray⟩) ∧ Kept w w' := by
  have HT : Hid (Calls Tryz.prog 129 #[v] w fun e w' => (∃ v', e = .returned v' ∧ WdsAt w' v' [n]) ∧ Kept w w') := Lib.hid (by have h := ntrim_any v xs w hv; rw [hn, nw_one h0 (by omega)] at h; exact h)
  have HSM : Hid (∀ W va, WdsAt W va [n] → Calls Tryz.prog 164 #[va, .int .u32 (1000000000 : Nat)] W fun e w' => (∃ v', e = .returned (.tuple #[v', .int .u32 n]) ∧ WdsAt w' v' []) ∧ Kept W w') := Lib.hid fun W va h => by
    have h := small_any va [n] 1000000000 W h (by omega) (by omega)
    have e1 : nv [n] = n := by simp [nv]
    rw [e1, Nat.mod_eq_of_lt h9, Nat.div_eq_of_lt h9, nw_zero] at h
    exact h
  have HNI := Lib.hid (fun W => nine_any n (by omega) W)
  obtain ⟨N9, hN9⟩ : ∃ N9, N9 = nineB n := ⟨_, rfl⟩
  have HLEN : Hid (N9.length = 9) := Lib.hid (by rw [hN9]; exact nineB_len n)
  have HN9 : Hid (N9 ≠ []) := Lib.hid fun h => by
    have h2 := HLEN.out
    rw [h] at h2
    simp at h2
  rw [← hN9] at HNI hl
  have HTR : Hid (∀ W, Calls Tryz.prog 167 #[.string ⟨N9.toArray⟩, .string ⟨#[48]⟩] W fun e w' => e = .returned (.string ⟨l.toArray⟩) ∧ w' = W) := Lib.hid fun W => by
    have h := Go.Proofs.Tryz.strings_TrimLeft_one ⟨N9.toArray⟩ 48 (by decide) W
    rw [show (⟨N9.toArray⟩ : ByteArray).data.toList = N9 from rfl, hl] at h
    exact h
  have HNE : Hid ((⟨l.toArray⟩ : ByteArray) ≠ ⟨#[]⟩) := Lib.hid fun h => hne (by
    have := congrArg (fun b => b.data.toList) h
    simpa using this)
  have hie : l.isEmpty = false := by cases l with
    | nil => exact absurd rfl hne
    | cons _ _ => rfl
  have HV := Lib.hid hv
  obtain ⟨av, cv, rfl⟩ := hv.shape
  clear hv hn h9 hl hne hN9
  go_enter Tryz.func110, Tryz.ntmps110
  go_wp2_with fail
  refine HT.out.mono ?_
  rintro e w2 ⟨⟨v2, rfl, hv2⟩, hk2⟩
  have HV2 := Lib.hid hv2
  have HK2 := Lib.hid hk2
  clear hv2 hk2
  go_wp2_with fail
  go_loopg [0, 3] 1 (fun kx s0 s3 wr => ((1 ≤ kx ∧ s3 = .slice none 0 0 ∧ Hid (WdsAt wr s0 [n])) ∨ (Hid (WdsAt wr s0 []) ∧ Hid (wr.ownsRow w2.heap.size 9 1 s3 1 [.string ⟨N9.toArray⟩]))) ∧ Hid (Kept w2 wr))
  case atStart => exact ⟨.inl ⟨Nat.le_refl _, rfl, HV2⟩, Lib.hid (Kept.refl _)⟩
  case round =>
    obtain ⟨hor, HK⟩ := hrel
    rcases hor with ⟨hkx, rfl, HA⟩ | ⟨HA, HO⟩
    · obtain ⟨a0, c0, rfl⟩ := HA.out.shape
      simp only [List.length_singleton] at HA ⊢
      go_wp2_with (first
        | (go_at_call 164; refine (HSM.out _ _ HA.out).mono ?_; rintro e w3 ⟨⟨v3, rfl, hv3⟩, hk3⟩; have HV3 := Lib.hid hv3; have HK3 := Lib.hid hk3; clear hv3 hk3)
        | (go_at_call 165; refine (HNI.out _).mono ?_; rintro e w4 ⟨rfl, hk4⟩; have HK4 := Lib.hid hk4; clear hk4)
        | (at_builtin; refine app_one 171 9 _ 16 info_str Tryz.underlying171 rfl rfl _ _ rfl w2.heap.size _ [] rfl (World.ownsRow_nil _ _ _ _) _ (.string ⟨N9.toArray⟩) rfl (by simp) rfl (by simp) (by simp [maxLen]) (by have := HK.out.size; have := HK3.out.size; have := HK4.out.size; simp; omega) ?_; intro v' w' h5 _ h6; have H5 := Lib.hid h5; have H6 := Lib.hid h6; clear h5 h6))
      go_roundg 0
      case measure => omega
      case rel =>
        have hk := ((HK.out.trans HK3.out).trans HK4.out).alloc (.cells #[.string ⟨N9.toArray⟩] 9)
        refine ⟨.inr ⟨Lib.hid ?_, Lib.hid (by simpa using H5.out)⟩, Lib.hid (hk.app H6.out)⟩
        obtain ⟨a9, c9, i1, i2, i3, i4, _⟩ := HV3.out
        exact ⟨a9, c9, i1, i2, i3, i4, fun i hi => by simp at hi⟩
    · obtain ⟨a0, c0, rfl⟩ := HA.out.shape
      simp only [List.length_nil] at HA ⊢
      obtain ⟨g3, cap3, rfl, hc3⟩ := own_first HO.out
      have HC3 := Lib.hid hc3
      clear hc3
      go_wp2_with fail
      obtain ⟨w4, hw4⟩ : ∃ w4, w4 = wr.alloc (.cells #[.pointer none, .slice none 0 0] 178) := ⟨_, rfl⟩
      have HBK4 : Hid (w4.heap[wr.heap.size]? = some (.cells #[.pointer none, .slice none 0 0] 178 (0, 0))) := Lib.hid (by rw [hw4]; exact heap_alloc_new wr _)
      have HKR4 : Hid (Kept wr w4) := Lib.hid (by rw [hw4]; exact (Kept.refl wr).alloc _)
      try rw [← hw4]
      clear hw4
      have HSG : Hid (∀ W, Lib.BuilderAt 178 5 wr.heap.size wr.heap.size (.pointer (some ⟨wr.heap.size, 0, none⟩)) (Lib.byteCells N9) W → Kept wr W → Calls Tryz.prog 168 #[.pointer (some ⟨wr.heap.size, 0, none⟩)] W fun e w' => e = .returned (.string ⟨N9.toArray⟩) ∧ Kept wr w') := Lib.hid fun W hb hk => (Go.Proofs.Tryz.Builder_String wr.heap.size wr.heap.size N9 W (.inr hb) HN9.out).mono fun e w' ⟨h1, h2⟩ => ⟨h1, hk.app h2⟩
      go_loopg [7] 1 (fun kx s7 W => ((1 ≤ kx ∧ s7 = .int .i64 0 ∧ Hid (W.heap[wr.heap.size]? = some (.cells #[.pointer none, .slice none 0 0] 178 (0, 0)))) ∨ (s7 = .int .i64 (-1) ∧ Hid (Lib.BuilderAt 178 5 wr.heap.size wr.heap.size (.pointer (some ⟨wr.heap.size, 0, none⟩)) (Lib.byteCells N9) W))) ∧ Hid (Kept wr W))
      case atStart => exact ⟨.inl ⟨Nat.le_refl _, rfl, HBK4⟩, HKR4⟩
      case round =>
        obtain ⟨hor, HKW⟩ := hrel
        rcases hor with ⟨hkx, rfl, HB⟩ | ⟨rfl, HB⟩
        · have hce := HKW.out.cell HC3.out
          go_wp2_with (go_at_call 166; refine (bwrite_new _ _ ⟨N9.toArray⟩ _ (Nat.le_refl _) HB.out (by show N9.toArray.size ≤ _; rw [List.size_toArray, HLEN.out]; omega) HKW.out.size).mono ?_; rintro e w5 ⟨rfl, hb5, hk5⟩; have HB5 := Lib.hid hb5; have HK5 := Lib.hid hk5; clear hb5 hk5)
          go_roundg 0
          case measure => omega
          case rel => exact ⟨.inr ⟨by go_num, Lib.hid HB5.out⟩, Lib.hid (HKW.out.app HK5.out)⟩
        · go_wp2_with (first
            | (go_at_call 168; refine (HSG.out _ HB.out HKW.out).mono ?_; rintro e w6 ⟨rfl, hk6⟩; have HK6 := Lib.hid hk6; clear hk6)
            | (go_at_call 167; refine (HTR.out _).mono ?_; rintro e w7 ⟨rfl, rfl⟩))
          go_ret
          exact ⟨rfl, HK2.out.trans (HK.out.trans HK6.out)⟩
end Go.Proofs.YthiemjodcklejaaGreatDoor

/-
  Walk: rational.Text of a short positive fraction; rational.Make.
-/
namespace Go.Proofs.YthiemjodcklejaaGreatDoor
open Go.RowKit

theorem parts_can {q : Rat} (h : q.num ≠ 0) : partsR (canR q) = (decide (q.num < 0), nw q.num.natAbs, nw q.den) := by
  have hv := canR_valid q
  have hc : canR q = ⟨decide (q.num < 0), nw q.num.natAbs, nw q.den⟩ := by unfold canR; rw [if_neg h]
  unfold partsR
  rw [if_pos]
  · rw [hc]
  · refine ⟨hv, ?_⟩
    rw [hc]
    exact fun e => absurd (nw_eq_nil.1 e) (by omega)
set_option maxRecDepth 100000 in
set_option maxHeartbeats 4000000 in
theorem rtext_frac (v : Value) (q : Rat) (a b : Nat) (la lb s : List UInt8) (w : World) (hv : RatAt w v (canR q)) (hq : q.num = (a : Int)) (hd : q.den = b) (ha0 : a ≠ 0) (ha9 : a < 1000000000) (hb1 : 1 < b) (hb9 : b < 1000000000)
    (hla : Lib.trimLeftB (nineB a) 48 = la) (hlb : Lib.trimLeftB (nineB b) 48 = lb) (hna : la ≠ []) (hnb : lb ≠ []) (hs : la ++ 47 :: lb = s) :
    Calls Tryz.prog 53 #[v] w fun e w' => e = .returned (.string ⟨s.toArray⟩) ∧ Kept w w' := by
  have hp : partsR (canR q) = (false, [a], [b]) := by
    rw [parts_can (by rw [hq]; omega), hq, hd, Int.natAbs_natCast, nw_one ha0 (by omega), nw_one (n := b) (by omega) (by omega)]
    simp
  have HPA : Hid (∀ W, Kept w W → Calls Tryz.prog 59 #[v] W fun e w' => (∃ u1 u2, e = .returned (.tuple #[.bool false, u1, u2]) ∧ WdsAt w' u1 [a] ∧ WdsAt w' u2 [b]) ∧ Kept W w') := Lib.hid fun W hk => by
    have hsh : (canR q).Short 1 := by
      have hc : canR q = ⟨decide (q.num < 0), nw q.num.natAbs, nw q.den⟩ := by unfold canR; rw [if_neg (by rw [hq]; omega)]
      rw [hc, hq, hd, Int.natAbs_natCast, nw_one ha0 (by omega), nw_one (n := b) (by omega) (by omega)]
      exact ⟨Nat.le_refl _, Nat.le_refl _⟩
    have h := rparts_any v (canR q) W (hv.kept hk) ⟨Nat.le_trans hsh.1 (by omega), Nat.le_trans hsh.2 (by omega)⟩
    rw [hp] at h
    exact h
  have HTA := Lib.hid (fun W u (h : WdsAt W u [a]) => ntext_any u [a] a la W h (by simp [nv]) ha0 ha9 hla hna)
  have HTB := Lib.hid (fun W u (h : WdsAt W u [b]) => ntext_any u [b] b lb W h (by simp [nv]) (by omega) hb9 hlb hnb)
  have HCM : Hid (∀ W u1 u2, WdsAt W u1 [b] → WdsAt W u2 [1] → Calls Tryz.prog 75 #[u1, u2] W fun e w' => e = .returned (.int .i64 1) ∧ Kept W w') := Lib.hid fun W u1 u2 h1 h2 => by
    have h := ncmp_any u1 u2 [b] [1] W h1 h2
    have e1 : nv [b] = b := by simp [nv]
    have e2 : nv [1] = 1 := rfl
    rw [e1, e2] at h
    have e3 : cmpN b 1 = 1 := by unfold cmpN; rw [if_neg (by omega), if_pos (by omega)]
    rwa [e3] at h
  have HS : Hid ((⟨la.toArray⟩ : ByteArray) ++ ((⟨#[47]⟩ : ByteArray) ++ ⟨lb.toArray⟩) = ⟨s.toArray⟩) := Lib.hid (by
    apply ByteArray.ext
    rw [ByteArray.data_append, ByteArray.data_append]
    apply Array.toList_inj.1
    simp [← hs])
  have hl9 : la.length ≤ 9 := by rw [← hla, ← nineB_len a]; exact (List.dropWhile_sublist _).length_le
  have hl8 : lb.length ≤ 9 := by rw [← hlb, ← nineB_len b]; exact (List.dropWhile_sublist _).length_le
  have hz1 : ¬ 9223372036854775807 < 1 + lb.length := by omega
  have hz2 : ¬ 9223372036854775807 < la.length + (1 + lb.length) := by omega
  obtain ⟨u1, u2, rfl, h1, h2⟩ := hv
  obtain ⟨a1, c1, rfl⟩ := h1.shape
  obtain ⟨a2, c2, rfl⟩ := h2.shape
  generalize (canR q).num.length = n1 at *
  generalize (canR q).den.length = n2 at *
  generalize (canR q).neg = b0 at *
  clear h1 h2 hp hq hd ha0 ha9 hb1 hb9 hla hlb hna hnb hs hl9 hl8
  go_enter Tryz.func53, Tryz.ntmps53
  go_wp2_with (first
    | (go_at_call 59; refine (HPA.out _ ((Kept.refl w).alloc _)).mono ?_; rintro e w2 ⟨⟨u1, u2, rfl, hu1, hu2⟩, hk2⟩; have HU1 := Lib.hid hu1; have HU2 := Lib.hid hu2; have HK2 := Lib.hid (((Kept.refl w).alloc _).trans hk2); clear hu1 hu2 hk2)
    | (go_at_call 110; (with_reducible refine (HTA.out _ _ HU1.out).mono ?_); rintro e w3 ⟨rfl, hk3⟩; have HU3 := Lib.hid (HU2.out.kept hk3); have HK3 := Lib.hid (HK2.out.trans hk3); clear hk3)
    | (go_at_call 71; refine (rone_any _).mono ?_; rintro e w4 ⟨⟨u4, rfl, hu4⟩, hk4⟩; have HU4 := Lib.hid hu4; have HU5 := Lib.hid (HU3.out.kept hk4); have HK4 := Lib.hid (HK3.out.trans hk4); clear hu4 hk4)
    | (go_at_call 75; refine (HCM.out _ _ _ HU5.out HU4.out).mono ?_; rintro e w5 ⟨rfl, hk5⟩; have HU6 := Lib.hid (HU5.out.kept hk5); have HK5 := Lib.hid (HK4.out.trans hk5); clear hk5)
    | (go_at_call 110; refine (HTB.out _ _ HU6.out).mono ?_; rintro e w6 ⟨rfl, hk6⟩; have HK6 := Lib.hid (HK5.out.trans hk6); clear hk6))
  go_ret
  exact ⟨by rw [HS.out]; rfl, HK6.out⟩
set_option maxRecDepth 100000 in
set_option maxHeartbeats 4000000 in
theorem rmake_any (n d : Nat) (w : World) (hn : n < 9223372036854775808) (hd : d < 9223372036854775808) (hd0 : d ≠ 0) : Calls Tryz.prog 50 #[.int .i64 n, .int .i64 d] w fun e w' => (∃ v', e = .returned (.tuple #[v', .nilIface]) ∧ RatAt w' v' (canR (mkRat n d))) ∧ Kept w w' := by
  have HS1 : Hid (∀ W, Calls Tryz.prog 70 #[.int .i64 n] W fun e w' => (∃ v', e = .returned v' ∧ WdsAt w' v' (nw n)) ∧ Kept W w') := Lib.hid fun W => by have h := rsz_any n W (by omega) (by omega); rw [Int.natAbs_natCast] at h; exact h
  have HS2 : Hid (∀ W, Calls Tryz.prog 70 #[.int .i64 d] W fun e w' => (∃ v', e = .returned v' ∧ WdsAt w' v' (nw d)) ∧ Kept W w') := Lib.hid fun W => by have h := rsz_any d W (by omega) (by omega); rw [Int.natAbs_natCast] at h; exact h
  obtain ⟨R, hR⟩ : ∃ R, R = canR (mkRat n d) := ⟨_, rfl⟩
  have HFO : Hid (∀ W u1 u2, WdsAt W u1 (nw n) → WdsAt W u2 (nw d) → Calls Tryz.prog 69 #[.bool false, u1, u2] W fun e w' => (∃ v, e = .returned v ∧ RatAt w' v R) ∧ Kept W w') := Lib.hid fun W u1 u2 k1 k2 => by
    have hl1 : (nw n).length ≤ 2 := nw_len_lt.2 (by rw [show (4294967296 : Nat) ^ 2 = 18446744073709551616 by rfl]; omega)
    have hl2 : (nw d).length ≤ 2 := nw_len_lt.2 (by rw [show (4294967296 : Nat) ^ 2 = 18446744073709551616 by rfl]; omega)
    have h := rform_any false u1 u2 _ _ W k1 k2 (by omega) (by omega) (by rw [nv_nw]; exact hd0)
    rw [nv_nw, nv_nw, form_can _ _ _ hd0, show sg false n = (n : Int) from rfl, ← hR] at h
    exact h
  rw [← hR]
  generalize nw n = X at *
  generalize nw d = Y at *
  obtain ⟨w2, hw2⟩ : ∃ w2, w2 = w.alloc (.cells #[.bool false, .slice none 0 0, .slice none 0 0] 31) := ⟨_, rfl⟩
  have HR : Hid (RowAt w2 w.heap.size 31 [.bool false, .slice none 0 0, .slice none 0 0]) := Lib.hid (by rw [hw2]; exact RowAt.made w #[.bool false, .slice none 0 0, .slice none 0 0] 31)
  have HFX : Hid (FixAt w2 w.heap.size [.bool false, .slice none 0 0, .slice none 0 0]) := Lib.hid (by rw [hw2]; exact FixAt.made w #[.bool false, .slice none 0 0, .slice none 0 0] 31)
  have HK0 : Hid (Kept w w2) := Lib.hid (by rw [hw2]; exact (Kept.refl w).alloc _)
  have HW2 := Lib.hid hw2
  have hn0 : ¬ (n : Int) < 0 := by omega
  have hdn : ¬ (d : Int) < 0 := by omega
  have hdz : ((d : Int) == 0) = false := by simp; omega
  have hdz2 : ¬ (d : Int) = 0 := by omega
  clear hw2 hR hn hd hd0
  go_enter Tryz.func50, Tryz.ntmps50
  go_wp2_with fail
  rw [← HW2.out]
  refine (HS1.out _).mono ?_
  rintro e w3 ⟨⟨v3, rfl, hv3⟩, hk3⟩
  have HV3 := Lib.hid hv3
  have HR3 := Lib.hid (HR.out.kept hk3)
  have HF3 := Lib.hid (HFX.out.kept hk3)
  have HK3 := Lib.hid (HK0.out.trans hk3)
  clear hv3 hk3
  go_wp2_with fail
  refine (HS2.out _).mono ?_
  rintro e w4 ⟨⟨v4, rfl, hv4⟩, hk4⟩
  have HV4 := Lib.hid hv4
  have HV3' := Lib.hid (HV3.out.kept hk4)
  have HR4 := Lib.hid (HR3.out.kept hk4)
  have HF4 := Lib.hid (HF3.out.kept hk4)
  have HK4 := Lib.hid (HK3.out.trans hk4)
  clear hv4 hk4
  go_wp2_with fail
  refine (HFO.out _ _ _ HV3'.out HV4.out).mono ?_
  rintro e w10 ⟨⟨v10, rfl, hv10⟩, hk10⟩
  have hr10 := HR4.out.kept hk10
  have HF10 := Lib.hid (HF4.out.kept hk10)
  have HK10 := Lib.hid (HK4.out.trans hk10)
  obtain ⟨u7, u8, rfl, k7, k8⟩ := hv10
  obtain ⟨a7, c7, rfl⟩ := k7.shape
  obtain ⟨a8, c8, rfl⟩ := k8.shape
  obtain ⟨y0, y1, y2, hra⟩ := rat_stored hr10 HF10.out k7 k8
  have g0 := hr10.cell (i := 0) (by simp)
  have g1 := hr10.cell (i := 1) (by simp)
  have g2 := hr10.cell (i := 2) (by simp)
  have f0 := hr10.free 0
  have f1 := hr10.free 1
  have f2 := hr10.free 2
  have HRA := Lib.hid hra
  have Y0 := Lib.hid y0
  have Y1 := Lib.hid y1
  have Y2 := Lib.hid y2
  clear hra y0 y1 y2 k7 k8 hr10 hk10
  generalize R.num.length = n7 at *
  generalize R.den.length = n8 at *
  go_wp2
  refine bodyPost_ret (v := .tuple #[.agg #[.bool R.neg, .slice a7 n7 c7, .slice a8 n8 c8], .nilIface]) ?_ rfl ⟨⟨_, rfl, HRA.out⟩, ?_⟩
  · simp [results, Tryz.results50, go_sem, Y0.out, Y1.out, Y2.out]
  · exact ((HK10.out.store (by omega) _ _).store (by omega) _ _).store (by omega) _ _
end Go.Proofs.YthiemjodcklejaaGreatDoor

/-
  Plain: chances; the example of the chapters 38 to 40.
-/
namespace Go.Proofs.YthiemjodcklejaaGreatDoor
open Go.RowKit

/-- What Prob answers: the error's number, the sum. -/
def prbT (L : List (Nat × Nat)) (ps : List Rw) : Nat × Rat :=
  if L.any (fun c => decide ((ps.length : Int) ≤ gtK (c.1 ||| c.2))) = true then (11, 0) else if badR ps = true then (3, 0) else (0, sumWs ps L L.length)
def prbD (L0 : List (Int × Int)) (ps : List Rw) : Nat × Rat := if chkD L0 ≠ 0 then (chkD L0, 0) else prbT (L0.map natC) ps
theorem prob_can {q : Rat} (h0 : 0 ≤ q) (h1 : q ≤ 1) : probR (canR q) = true := by
  rw [prob_sgn (canR_ok q), canR_valid, ratOf_can]
  have s1 : 0 ≤ sgnR q := by
    unfold sgnR
    by_cases h : q = 0
    · rw [if_pos h]; decide
    · rw [if_neg h, if_neg (by grind)]; decide
  have s2 : sgnR (q - ((1 : Int) : Rat)) ≤ 0 := by
    have e : ((1 : Int) : Rat) = 1 := rfl
    rw [e]
    unfold sgnR
    by_cases h : q - 1 = 0
    · rw [if_pos h]; decide
    · rw [if_neg h, if_pos (by grind)]; decide
  rw [decide_eq_true s1, decide_eq_true s2]; rfl
theorem unit_prob {r : Rw} (hw : r.Ok) (h : probR r = true) : 0 ≤ ratOf r ∧ ratOf r ≤ 1 := by
  rw [prob_sgn hw, Bool.and_eq_true, Bool.and_eq_true, decide_eq_true_eq, decide_eq_true_eq] at h
  obtain ⟨_, h1, h2⟩ := h
  have e : ((1 : Int) : Rat) = 1 := rfl
  rw [e] at h2
  unfold sgnR at h1 h2
  constructor
  · split at h1
    · grind
    · split at h1 <;> first | grind | omega
  · split at h2
    · grind
    · split at h2 <;> first | grind | omega
theorem qOf_unit {ps : List Rw} (hok : ∀ r ∈ ps, r.Ok) (hb : badR ps = false) : ∀ i, i < ps.length → 0 ≤ qOf ps i ∧ qOf ps i ≤ 1 := fun i hi => by
  have e : ps.getD i default = ps[i] := by simp [List.getD_eq_getElem?_getD, hi]
  unfold qOf
  rw [e]
  refine unit_prob (hok _ (List.getElem_mem hi)) ?_
  unfold badR at hb
  rw [List.any_eq_false] at hb
  have := hb ps[i] (List.getElem_mem hi)
  simpa using this
theorem can_short1 {q : Rat} (h1 : q.num.natAbs < 4294967296) (h2 : q.den < 4294967296) : (canR q).Short 1 := by
  unfold canR
  split
  · exact ⟨Nat.zero_le _, Nat.zero_le _⟩
  · exact ⟨nw_len_lt.2 (by simpa using h1), nw_len_lt.2 (by simpa using h2)⟩
/-- The example's probabilities. -/
def exPs : List Rw := [canR (mkRat 1 10), canR (mkRat 1 5), canR (mkRat 1 4)]
theorem ex_short : ∀ r ∈ exPs, r.Short 1 := fun r hr => by
  simp only [exPs, List.mem_cons, List.not_mem_nil, or_false] at hr
  rcases hr with rfl | rfl | rfl
  · exact can_short1 (by decide +kernel) (by decide +kernel)
  · exact can_short1 (by decide +kernel) (by decide +kernel)
  · exact can_short1 (by decide +kernel) (by decide +kernel)
theorem ex_short3 : ∀ r ∈ exPs, r.Short 3 := fun r hr => ⟨Nat.le_trans (ex_short r hr).1 (by omega), Nat.le_trans (ex_short r hr).2 (by omega)⟩
theorem ex_good : badR exPs = false := by
  unfold badR
  rw [List.any_eq_false]
  intro r hr
  simp only [exPs, List.mem_cons, List.not_mem_nil, or_false] at hr
  rcases hr with rfl | rfl | rfl
  · rw [prob_can (by decide +kernel) (by decide +kernel)]; simp
  · rw [prob_can (by decide +kernel) (by decide +kernel)]; simp
  · rw [prob_can (by decide +kernel) (by decide +kernel)]; simp
theorem ex_q0 : qOf exPs 0 = mkRat 1 10 := by show ratOf (canR (mkRat 1 10)) = _; exact ratOf_can _
theorem ex_q1 : qOf exPs 1 = mkRat 1 5 := by show ratOf (canR (mkRat 1 5)) = _; exact ratOf_can _
theorem ex_q2 : qOf exPs 2 = mkRat 1 4 := by show ratOf (canR (mkRat 1 4)) = _; exact ratOf_can _
set_option linter.unusedSimpArgs false in
theorem chk_16 : chkI [1, 6] = 0 := by
  obtain ⟨h0, h1, h2, h3, h4, h5, h6, h7⟩ := pcs
  simp +decide [chkI, errI, okI, natsI, sortK, insK, ltK, minK, minN, keepN, h0, h1, h2, h3, h4, h5, h6, h7]
theorem cubes_16 : cubesK [1, 6] = some [(1, 0), (6, 1)] := by decide
theorem cubR_16 : cubR [1, 6] = (0, [(1, 0), (6, 1)]) := by
  unfold cubR
  rw [if_neg (by rw [chk_16]; simp), show natsI [1, 6] = [1, 6] from rfl, cubes_16]
theorem ex_sum : sumWs exPs [(1, 0), (6, 1)] 2 = mkRat 29 200 := by
  have e : sumWs exPs [(1, 0), (6, 1)] 2 = (0 + wQ (qOf exPs) (1, 0) 3) + wQ (qOf exPs) (6, 1) 3 := rfl
  have b1 : wQ (qOf exPs) (1, 0) 3 = qOf exPs 0 := by
    show ((((((1 : Rat) * if (1 : Nat).testBit 0 = true then qOf exPs 0 else 1) * if (0 : Nat).testBit 0 = true then 1 - qOf exPs 0 else 1) * if (1 : Nat).testBit 1 = true then qOf exPs 1 else 1) * if (0 : Nat).testBit 1 = true then 1 - qOf exPs 1 else 1) * if (1 : Nat).testBit 2 = true then qOf exPs 2 else 1) * (if (0 : Nat).testBit 2 = true then 1 - qOf exPs 2 else 1) = _
    rw [if_pos (by decide), if_neg (by decide), if_neg (by decide), if_neg (by decide), if_neg (by decide), if_neg (by decide)]
    grind
  have b2 : wQ (qOf exPs) (6, 1) 3 = (1 - qOf exPs 0) * (qOf exPs 1 * qOf exPs 2) := by
    show ((((((1 : Rat) * if (6 : Nat).testBit 0 = true then qOf exPs 0 else 1) * if (1 : Nat).testBit 0 = true then 1 - qOf exPs 0 else 1) * if (6 : Nat).testBit 1 = true then qOf exPs 1 else 1) * if (1 : Nat).testBit 1 = true then 1 - qOf exPs 1 else 1) * if (6 : Nat).testBit 2 = true then qOf exPs 2 else 1) * (if (1 : Nat).testBit 2 = true then 1 - qOf exPs 2 else 1) = _
    rw [if_neg (by decide), if_pos (by decide), if_pos (by decide), if_neg (by decide), if_pos (by decide), if_neg (by decide)]
    grind
  rw [e, b1, b2, ex_q0, ex_q1, ex_q2]
  decide +kernel
theorem prb_16 : prbD (ofCs [(1, 0), (6, 1)]) exPs = (0, mkRat 29 200) := by
  have h1 : chkD (ofCs [(1, 0), (6, 1)]) = 0 := by decide
  have h2 : (ofCs [(1, 0), (6, 1)]).map natC = [(1, 0), (6, 1)] := rfl
  unfold prbD
  rw [if_neg (by rw [h1]; simp), h2]
  unfold prbT
  rw [if_neg (by decide +kernel), ex_good, if_neg (by simp), show ([(1, 0), (6, 1)] : List (Nat × Nat)).length = 2 from rfl, ex_sum]
end Go.Proofs.YthiemjodcklejaaGreatDoor

/-
  Walks: Prob of disjoint and of the reference. Printed by gen_I11.py.
-/
namespace Go.Proofs.YthiemjodcklejaaGreatDoor
open Go.RowKit

set_option maxRecDepth 100000 in
set_option maxHeartbeats 16000000 in
theorem dprob_any (cv v : Value) (L0 : List (Int × Int)) (ps : List Rw) (w : World) (hc : CbsAt w cv L0) (hv : RatsAt w v ps) (hp3 : ∀ r ∈ ps, r.Short 3) (hp30 : ps.length ≤ 30) :
    Calls Tryz.prog 51 #[cv, v] w fun e w' => (∃ v', e = .returned (.tuple #[v', errV (prbD L0 ps).1]) ∧ RatAt w' v' (canR (prbD L0 ps).2)) ∧ Kept w w' := by
  have HCH : Hid (∀ W, Kept w W → Calls Tryz.prog 108 #[cv] W fun e w' => e = .returned (errV (chkD L0)) ∧ Kept W w') := Lib.hid fun W h => dcheck_any cv L0 W (hc.kept h)
  obtain ⟨QQ, hQQ⟩ : ∃ QQ, QQ = prbD L0 ps := ⟨_, rfl⟩
  have hQ0 : QQ = if chkD L0 ≠ 0 then (chkD L0, 0) else prbT (L0.map natC) ps := hQQ
  rw [← hQQ]
  obtain ⟨Qn, Qr⟩ := QQ
  simp only
  have HGR : Hid (∀ (s : Nat) (W : World), s < 16777216 → Calls Tryz.prog 109 #[.int .i64 s] W fun e w' => e = .returned (.int .i64 (gtK s)) ∧ Kept W w') := Lib.hid fun s W hs => (great_any s hs W).mono fun _ _ ⟨h1, h2⟩ => ⟨h1, by rw [h2]; exact Kept.refl _⟩
  have HBA := Lib.hid (fun W (h : Kept w W) => dbad_any v ps W (hv.kept h) (fun r hr => ⟨Nat.le_trans (hp3 r hr).1 (by omega), Nat.le_trans (hp3 r hr).2 (by omega)⟩))
  have HV0 := Lib.hid hc
  have HPV0 := Lib.hid hv
  have H3 := Lib.hid hp3
  obtain ⟨ca, cc, rfl⟩ := hc.shape
  obtain ⟨pa, pc, rfl⟩ := hv.shape
  obtain ⟨q1, hq1⟩ : ∃ q1, q1 = chkD L0 := ⟨_, rfl⟩
  rw [← hq1] at HCH hQ0
  have HQ0 := Lib.hid hQ0
  have HQ1 := Lib.hid hq1
  obtain ⟨w2, hw2⟩ : ∃ w2, w2 = w.alloc (.cells #[.bool false, .slice none 0 0, .slice none 0 0] 31) := ⟨_, rfl⟩
  have HR2 : Hid (RowAt w2 w.heap.size 31 [.bool false, .slice none 0 0, .slice none 0 0]) := Lib.hid (by rw [hw2]; exact RowAt.made w #[.bool false, .slice none 0 0, .slice none 0 0] 31)
  have HF2 : Hid (FixAt w2 w.heap.size [.bool false, .slice none 0 0, .slice none 0 0]) := Lib.hid (by rw [hw2]; exact FixAt.made w #[.bool false, .slice none 0 0, .slice none 0 0] 31)
  have HK2 : Hid (Kept w w2) := Lib.hid (by rw [hw2]; exact (Kept.refl _).alloc _)
  have HW2 := Lib.hid hw2
  clear hc hv hp3 hw2 hQQ hQ0 hq1
  by_cases h1 : q1 = 0
  · subst h1
    rw [errV_zero] at HCH
    obtain ⟨L, hL⟩ : ∃ L, L = L0.map natC := ⟨_, rfl⟩
    have h9 : L0.length ≤ 1024 ∧ chkCs L0 = 0 := by
      have h := HQ1.out
      unfold chkD at h
      split at h
      · cases h
      · split at h
        · exact absurd h.symm (by assumption)
        · rename_i h2 h3; exact ⟨by omega, Classical.byContradiction h3⟩
    have hL0 : L0 = ofCs L := by
      rw [hL]
      unfold ofCs
      rw [List.map_map]
      refine (List.map_id L0).symm.trans (List.map_congr_left fun c hc => ?_)
      exact (chkCb_zero (chkCs_zero h9.2 c hc)).2
    have HB : Hid (∀ c ∈ L, c.1 < 16777216 ∧ c.2 < 16777216) := Lib.hid fun c hc => by
      rw [hL] at hc
      obtain ⟨d, hd, rfl⟩ := List.mem_map.1 hc
      have := (chkCb_zero (chkCs_zero h9.2 d hd)).1
      exact ⟨this.1, this.2.1⟩
    have HQA : Hid ((Qn, Qr) = prbT L ps) := Lib.hid (by have h := HQ0.out; rw [if_neg (by omega), ← hL] at h; exact h)
    have hlen : L.length ≤ 1024 := by rw [hL, List.length_map]; exact h9.1
    have HV : Hid (CbsAt w (.slice ca L0.length cc) (ofCs L)) := Lib.hid (by rw [← hL0]; exact HV0.out)
    obtain ⟨m, hm⟩ : ∃ m, m = L0.length := ⟨_, rfl⟩
    have hm2 : m = L.length := by rw [hm, hL, List.length_map]
    rw [← hm] at HV HCH ⊢
    have HM := Lib.hid hm2
    obtain ⟨pn, hpn⟩ : ∃ pn, pn = ps.length := ⟨_, rfl⟩
    have HPV : Hid (RatsAt w (.slice pa pn pc) ps) := Lib.hid (by rw [hpn]; exact HPV0.out)
    rw [← hpn] at HBA ⊢
    have HPN := Lib.hid hpn
    have hm9 : m ≤ 1024 := by omega
    clear h9 hL0 hlen hm hm2 hpn hL HQ0 HQ1 HV0 HPV0
    go_enter Tryz.func51, Tryz.ntmps51
    go_wp2_with fail
    rw [← HW2.out]
    refine (HCH.out _ HK2.out).mono ?_
    rintro e w4 ⟨rfl, hk4⟩
    have HR4 := Lib.hid (HR2.out.kept hk4)
    have HF4 := Lib.hid (HF2.out.kept hk4)
    have HK4 := Lib.hid (HK2.out.trans hk4)
    clear hk4
    go_wp2_with fail
    go_loopg [17] m (fun kx s1 wr => ∃ k : Nat, k ≤ m ∧ s1 = .int .i64 k ∧ m - k ≤ kx ∧ Hid (∀ c ∈ L.take k, gtK (c.1 ||| c.2) < (pn : Int)) ∧ Hid (Kept w4 wr))
    case atStart => exact ⟨0, Nat.zero_le _, rfl, by omega, Lib.hid (by simp), Lib.hid (Kept.refl _)⟩
    case round =>
      obtain ⟨k, hk, rfl, hkx, HG, HKr⟩ := hrel
      have HKw := Lib.hid (HK4.out.trans HKr.out)
      by_cases hlt : k < m
      · have hkl : k < L.length := by have := HM.out; omega
        obtain ⟨b, o, rfl, g1, g2⟩ := HV.out.get k (by rw [ofCs_len]; exact hkl)
        rw [ofCs_getD hkl] at g1 g2
        obtain ⟨y, hy⟩ : ∃ y, y = L[k].1 := ⟨_, rfl⟩
        obtain ⟨n, hn⟩ : ∃ n, n = L[k].2 := ⟨_, rfl⟩
        have eL : L[k] = (y, n) := by rw [hy, hn]
        have hbd := HB.out L[k] (List.getElem_mem hkl)
        rw [eL] at g1 g2 hbd
        have x1 := HKw.out.cell g1
        have x2 := HKw.out.cell g2
        rw [← Nat.add_assoc] at x2
        simp only [ofC] at x1 x2
        have HEL := Lib.hid eL
        have p1 := or_i64 y n (by omega) (by omega)
        obtain ⟨z, hz⟩ : ∃ z, z = y ||| n := ⟨_, rfl⟩
        have hz24 : z < 16777216 := by rw [hz]; exact or_lt24 hbd.1 hbd.2
        rw [← hz] at p1
        have HZ := Lib.hid hz
        have HGC := Lib.hid (fun W => HGR.out z W hz24)
        have hki : (k : Int) < (m : Int) := by omega
        obtain ⟨g, hg⟩ : ∃ g, g = gtK z := ⟨_, rfl⟩
        have HGG := Lib.hid hg
        rw [← hg] at HGC
        obtain ⟨wo, rfl⟩ : ∃ wo : World, wo = wr := ⟨_, rfl⟩
        clear g1 g2 hy hn eL hbd hz hz24 hg
        by_cases hge : (pn : Int) ≤ g
        · have HQV : Hid (Qn = 11 ∧ Qr = 0) := Lib.hid (by
            have h := HQA.out
            unfold prbT at h
            rw [if_pos (List.any_eq_true.2 ⟨L[k], List.getElem_mem _, decide_eq_true (by rw [HEL.out, ← HPN.out]; show (pn : Int) ≤ gtK (y ||| n); rw [← HZ.out, ← HGG.out]; exact hge)⟩)] at h
            injection h with h1 h2
            exact ⟨h1, h2⟩)
          have dge : decide ((pn : Int) ≤ g) = true := decide_eq_true hge
          go_wp2_with (go_at_call 109; refine (HGC.out _).mono ?_; rintro e w5 ⟨rfl, hk5⟩; have HRW := Lib.hid (HR4.out.kept (HKr.out.trans (((Kept.refl _).alloc _).trans hk5))); have HFW := Lib.hid (HF4.out.kept (HKr.out.trans (((Kept.refl _).alloc _).trans hk5))); have HK5 := Lib.hid (HKw.out.trans (((Kept.refl _).alloc _).trans hk5)); clear hk5; have G0 := HRW.out.cell (i := 0) (by simp); have G1 := HRW.out.cell (i := 1) (by simp); have G2 := HRW.out.cell (i := 2) (by simp); have F0 := HRW.out.free 0; have F1 := HRW.out.free 1; have F2 := HRW.out.free 2; have LT := HRW.out.lt)
          obtain ⟨y0, y1, y2, hra⟩ := rat_stored (r := ⟨false, [], []⟩) HRW.out HFW.out (WdsAt.nil _) (WdsAt.nil _)
          have Y := Lib.hid (And.intro y0 (And.intro y1 y2))
          have HRA := Lib.hid hra
          clear y0 y1 y2 hra
          refine bodyPost_ret (v := .tuple #[.agg #[.bool false, .slice none 0 0, .slice none 0 0], errV 11]) ?_ rfl ⟨⟨_, by rw [HQV.out.1], by rw [HQV.out.2, canR_zero]; exact HRA.out⟩, ?_⟩
          · simp [results, Tryz.results51, go_sem, Y.out.1, Y.out.2.1, Y.out.2.2, errV]
          · exact ((HK5.out.store (by omega) _ _).store (by omega) _ _).store (by omega) _ _
        · have hgl : ¬ (pn : Int) ≤ g := hge
          have dgl : decide ((pn : Int) ≤ g) = false := decide_eq_false hge
          go_wp2_with (go_at_call 109; refine (HGC.out _).mono ?_; rintro e w5 ⟨rfl, hk5⟩; have HK5 := Lib.hid (HKr.out.trans (((Kept.refl _).alloc _).trans hk5)); clear hk5)
          go_roundg (m - (k + 1))
          case measure => omega
          case rel => exact ⟨k + 1, by omega, by go_num, Nat.le_refl _, Lib.hid (fun c hc => by
            rw [List.take_succ_eq_append_getElem hkl] at hc
            rcases List.mem_append.1 hc with hc | hc
            · exact HG.out c hc
            · simp at hc; rw [hc, HEL.out]; show gtK (y ||| n) < _; rw [← HZ.out, ← HGG.out]; omega), HK5⟩
      · have hki : ¬ (k : Int) < (m : Int) := by omega
        have HGA : Hid (∀ c ∈ L, gtK (c.1 ||| c.2) < (pn : Int)) := Lib.hid (by have h := HG.out; rwa [List.take_of_length_le (by have := HM.out; omega)] at h)
        have HQB : Hid ((Qn, Qr) = if badR ps = true then (3, 0) else (0, sumWs ps L L.length)) := Lib.hid (by
          have h := HQA.out
          unfold prbT at h
          rw [if_neg (by
            intro h2
            obtain ⟨c, hc, h3⟩ := List.any_eq_true.1 h2
            have := HGA.out c hc
            have := of_decide_eq_true h3
            have := HPN.out
            omega)] at h
          exact h)
        cases hbad : badR ps with
        | true =>
          rw [hbad] at HBA HQB
          have HQV : Hid (Qn = 3 ∧ Qr = 0) := Lib.hid (by
            have h := HQB.out
            rw [if_pos rfl] at h
            injection h with h1 h2
            exact ⟨h1, h2⟩)
          clear hbad
          go_wp2_with fail
          refine (HBA.out _ HKw.out).mono ?_
          rintro e w5 ⟨rfl, hk5⟩
          have HRW := Lib.hid (HR4.out.kept (HKr.out.trans hk5))
          have HFW := Lib.hid (HF4.out.kept (HKr.out.trans hk5))
          have HK5 := Lib.hid (HKw.out.trans hk5)
          clear hk5
          have hr5 := HRW.out
          obtain ⟨y0, y1, y2, hra⟩ := rat_stored (r := ⟨false, [], []⟩) hr5 HFW.out (WdsAt.nil _) (WdsAt.nil _)
          have Y := Lib.hid (And.intro y0 (And.intro y1 y2))
          have HRA := Lib.hid hra
          have g0 := hr5.cell (i := 0) (by simp)
          have g1 := hr5.cell (i := 1) (by simp)
          have g2 := hr5.cell (i := 2) (by simp)
          have f0 := hr5.free 0
          have f1 := hr5.free 1
          have f2 := hr5.free 2
          have hlt5 := hr5.lt
          clear hr5 y0 y1 y2 hra
          go_wp2
          refine bodyPost_ret (v := .tuple #[.agg #[.bool false, .slice none 0 0, .slice none 0 0], errV 3]) ?_ rfl ⟨⟨_, by rw [HQV.out.1], by rw [HQV.out.2, canR_zero]; exact HRA.out⟩, ?_⟩
          · simp [results, Tryz.results51, go_sem, Y.out.1, Y.out.2.1, Y.out.2.2, errV]
          · exact ((HK5.out.store (by omega) _ _).store (by omega) _ _).store (by omega) _ _
        | false =>
          rw [hbad] at HBA HQB
          have HQV : Hid (Qn = 0 ∧ Qr = sumWs ps L L.length) := Lib.hid (by
            have h := HQB.out
            rw [if_neg (by simp)] at h
            injection h with h1 h2
            exact ⟨h1, h2⟩)
          clear hbad
          go_wp2_with fail
          refine (HBA.out _ HKw.out).mono ?_
          rintro e w5 ⟨rfl, hk5⟩
          have HRW := Lib.hid (HR4.out.kept (HKr.out.trans hk5))
          have HFW := Lib.hid (HF4.out.kept (HKr.out.trans hk5))
          have HK5 := Lib.hid (HKw.out.trans hk5)
          clear hk5
          have HTO := Lib.hid (fun W (h : Kept w W) => dtotal_any (.slice ca m cc) (.slice pa pn pc) L ps W (HV.out.kept h) HB.out (by have := HM.out; omega) (HPV.out.kept h) H3.out (by have := HPN.out; omega))
          rw [← HM.out] at HTO
          go_wp2_with fail
          refine (HTO.out _ HK5.out).mono ?_
          rintro e w6 ⟨⟨v6, rfl, hv6⟩, hk6⟩
          have hrr := HRW.out.kept hk6
          have HFF := Lib.hid (HFW.out.kept hk6)
          have HK6 := Lib.hid (HK5.out.trans hk6)
          rw [HM.out, ← HQV.out.2] at hv6
          obtain ⟨R, hR⟩ : ∃ R, R = canR Qr := ⟨_, rfl⟩
          have HRR := Lib.hid hR
          rw [← hR] at hv6
          obtain ⟨u7, u8, rfl, k7, k8⟩ := hv6
          obtain ⟨a5, c5, rfl⟩ := k7.shape
          obtain ⟨a6, c6, rfl⟩ := k8.shape
          obtain ⟨y0, y1, y2, hra⟩ := rat_stored hrr HFF.out k7 k8
          have g0 := hrr.cell (i := 0) (by simp)
          have g1 := hrr.cell (i := 1) (by simp)
          have g2 := hrr.cell (i := 2) (by simp)
          have f0 := hrr.free 0
          have f1 := hrr.free 1
          have f2 := hrr.free 2
          have hlt5 := hrr.lt
          have HRA := Lib.hid hra
          have Y := Lib.hid (And.intro y0 (And.intro y1 y2))
          clear hra y0 y1 y2 k7 k8 hrr hk6 hR
          generalize R.num.length = n7 at *
          generalize R.den.length = n8 at *
          go_wp2
          refine bodyPost_ret (v := .tuple #[.agg #[.bool R.neg, .slice a5 n7 c5, .slice a6 n8 c6], .nilIface]) ?_ rfl ⟨⟨_, by rw [HQV.out.1]; rfl, by rw [← HRR.out]; exact HRA.out⟩, ?_⟩
          · simp [results, Tryz.results51, go_sem, Y.out.1, Y.out.2.1, Y.out.2.2]
          · exact ((HK6.out.store (by omega) _ _).store (by omega) _ _).store (by omega) _ _
  · have HQV : Hid (Qn = q1 ∧ Qr = 0) := Lib.hid (by
      have h := HQ0.out
      rw [if_pos h1] at h
      injection h with h3 h4
      exact ⟨h3, h4⟩)
    rw [errV_pos h1] at HCH
    clear HQ0 HQ1
    go_enter Tryz.func51, Tryz.ntmps51
    go_wp2_with fail
    rw [← HW2.out]
    refine (HCH.out _ HK2.out).mono ?_
    rintro e w5 ⟨rfl, hk5⟩
    have HRW := Lib.hid (HR2.out.kept hk5)
    have HFW := Lib.hid (HF2.out.kept hk5)
    have HK5 := Lib.hid (HK2.out.trans hk5)
    clear hk5
    have hr5 := HRW.out
    obtain ⟨y0, y1, y2, hra⟩ := rat_stored (r := ⟨false, [], []⟩) hr5 HFW.out (WdsAt.nil _) (WdsAt.nil _)
    have Y := Lib.hid (And.intro y0 (And.intro y1 y2))
    have HRA := Lib.hid hra
    have g0 := hr5.cell (i := 0) (by simp)
    have g1 := hr5.cell (i := 1) (by simp)
    have g2 := hr5.cell (i := 2) (by simp)
    have f0 := hr5.free 0
    have f1 := hr5.free 1
    have f2 := hr5.free 2
    have hlt5 := hr5.lt
    clear hr5 y0 y1 y2 hra
    go_wp2
    refine bodyPost_ret (v := .tuple #[.agg #[.bool false, .slice none 0 0, .slice none 0 0], .iface 45 (.int .i64 q1)]) ?_ rfl ⟨⟨_, by rw [HQV.out.1]; rw [errV_pos h1], by rw [HQV.out.2, canR_zero]; exact HRA.out⟩, ?_⟩
    · simp [results, Tryz.results51, go_sem, Y.out.1, Y.out.2.1, Y.out.2.2]
    · exact ((HK5.out.store (by omega) _ _).store (by omega) _ _).store (by omega) _ _
end Go.Proofs.YthiemjodcklejaaGreatDoor

/-
  Walk: awake of the laws of chapter 38.
-/
namespace Go.Proofs.YthiemjodcklejaaGreatDoor
open Go.RowKit

/-- A literal of three fractions. -/
theorem rats_three {w : World} {r1 r2 r3 : Rw} {u1 v1 u2 v2 u3 v3 : Value} (h1 : WdsAt w u1 r1.num) (k1 : WdsAt w v1 r1.den) (h2 : WdsAt w u2 r2.num) (k2 : WdsAt w v2 r2.den) (h3 : WdsAt w u3 r3.num) (k3 : WdsAt w v3 r3.den) :
    RatsAt (w.alloc (.cells #[.bool r1.neg, u1, v1, .bool r2.neg, u2, v2, .bool r3.neg, u3, v3] 31)) (.slice (some ⟨w.heap.size, 0, none⟩) 3 3) [r1, r2, r3] := by
  have hk : Kept w (w.alloc (.cells #[.bool r1.neg, u1, v1, .bool r2.neg, u2, v2, .bool r3.neg, u3, v3] 31)) := (Kept.refl _).alloc _
  refine ⟨_, 3, rfl, ⟨by simp, fun h => by cases h⟩, by simp, fun i hi => ?_⟩
  match i, hi with
  | 0, _ =>
    refine ⟨w.heap.size, 0, u1, v1, rfl, fun j v hj => ?_, h1.kept hk, k1.kept hk⟩
    match j, hj with
    | 0, hj => simp at hj; subst hj; simp
    | 1, hj => simp at hj; subst hj; simp
    | 2, hj => simp at hj; subst hj; simp
  | 1, _ =>
    refine ⟨w.heap.size, 0, u2, v2, rfl, fun j v hj => ?_, h2.kept hk, k2.kept hk⟩
    match j, hj with
    | 0, hj => simp at hj; subst hj; simp
    | 1, hj => simp at hj; subst hj; simp
    | 2, hj => simp at hj; subst hj; simp
  | 2, _ =>
    refine ⟨w.heap.size, 0, u3, v3, rfl, fun j v hj => ?_, h3.kept hk, k3.kept hk⟩
    match j, hj with
    | 0, hj => simp at hj; subst hj; simp
    | 1, hj => simp at hj; subst hj; simp
    | 2, hj => simp at hj; subst hj; simp
theorem ints_16 (w : World) : IntsAt (w.alloc (.cells #[.int .i64 1, .int .i64 6] 3)) (.slice (some ⟨w.heap.size, 0, none⟩) 2 2) [1, 6] :=
  (RowAt.made w #[.int .i64 1, .int .i64 6] 3).ints (xs := [1, 6]) (c := 2) (by simp) (by simp)
theorem cbs_two (w : World) : CbsAt (w.alloc (.cells #[.int .i64 1, .int .i64 0, .int .i64 6, .int .i64 1] 77)) (.slice (some ⟨w.heap.size, 0, none⟩) 2 2) (ofCs [(1, 0), (6, 1)]) := by
  refine ⟨_, 2, rfl, ⟨by simp [ofCs], fun h => by cases h⟩, by simp [ofCs], fun i hi => ?_⟩
  match i, hi with
  | 0, _ =>
    refine ⟨w.heap.size, 0, rfl, fun j v hj => ?_⟩
    match j, hj with
    | 0, hj => simp [ofCs, ofC, ccells] at hj; subst hj; simp
    | 1, hj => simp [ofCs, ofC, ccells] at hj; subst hj; simp
  | 1, _ =>
    refine ⟨w.heap.size, 0, rfl, fun j v hj => ?_⟩
    match j, hj with
    | 0, hj => simp [ofCs, ofC, ccells] at hj; subst hj; simp
    | 1, hj => simp [ofCs, ofC, ccells] at hj; subst hj; simp
set_option maxRecDepth 100000 in
set_option maxHeartbeats 8000000 in
theorem awake38_ok (w : World) : Calls Tryz.prog 11 #[] w fun e w' => e = .returned (.bool true) ∧ Kept w w' := by
  have HCU : Hid (∀ W, Calls Tryz.prog 49 #[.slice (some ⟨W.heap.size, 0, none⟩) 2 2] (W.alloc (.cells #[.int .i64 1, .int .i64 6] 3)) fun e w' => (∃ v', e = .returned (.tuple #[v', .nilIface]) ∧ CbsAt w' v' (ofCs [(1, 0), (6, 1)])) ∧ Kept W w') := Lib.hid fun W => by
    have h := cubes_any _ [1, 6] _ (ints_16 W)
    rw [cubR_16] at h
    exact h.mono fun e w' ⟨h1, h2⟩ => ⟨h1, ((Kept.refl W).alloc _).trans h2⟩
  have HM1 : Hid (∀ W, Calls Tryz.prog 50 #[.int .i64 1, .int .i64 10] W fun e w' => (∃ v', e = .returned (.tuple #[v', .nilIface]) ∧ RatAt w' v' (canR (mkRat 1 10))) ∧ Kept W w') := Lib.hid fun W => rmake_any 1 10 W (by decide) (by decide) (by decide)
  have HM2 : Hid (∀ W, Calls Tryz.prog 50 #[.int .i64 1, .int .i64 5] W fun e w' => (∃ v', e = .returned (.tuple #[v', .nilIface]) ∧ RatAt w' v' (canR (mkRat 1 5))) ∧ Kept W w') := Lib.hid fun W => rmake_any 1 5 W (by decide) (by decide) (by decide)
  have HM3 : Hid (∀ W, Calls Tryz.prog 50 #[.int .i64 1, .int .i64 4] W fun e w' => (∃ v', e = .returned (.tuple #[v', .nilIface]) ∧ RatAt w' v' (canR (mkRat 1 4))) ∧ Kept W w') := Lib.hid fun W => rmake_any 1 4 W (by decide) (by decide) (by decide)
  have HPB : Hid (∀ W cv v, CbsAt W cv (ofCs [(1, 0), (6, 1)]) → RatsAt W v exPs → Calls Tryz.prog 51 #[cv, v] W fun e w' => (∃ v', e = .returned (.tuple #[v', .nilIface]) ∧ RatAt w' v' (canR (mkRat 29 200))) ∧ Kept W w') := Lib.hid fun W cv v h1 h2 => by
    have h := dprob_any cv v _ exPs W h1 h2 ex_short3 (by decide)
    rw [prb_16] at h
    exact h
  have HTX : Hid (∀ W v, RatAt W v (canR (mkRat 29 200)) → Calls Tryz.prog 53 #[v] W fun e w' => e = .returned (.string ⟨#[50, 57, 47, 50, 48, 48]⟩) ∧ Kept W w') := Lib.hid fun W v h => rtext_frac v _ 29 200 [50, 57] [50, 48, 48] [50, 57, 47, 50, 48, 48] W h (by decide +kernel) (by decide +kernel) (by decide) (by decide) (by decide) (by decide) (by decide) (by decide) (by decide) (by decide) (by decide)
  have HCB := Lib.hid (fun W va vb h1 h2 => cubes_true (ofCs [(1, 0), (6, 1)]) va vb W h1 h2)
  go_enter Tryz.func11, Tryz.ntmps11
  go_wp2_with fail
  refine (HCU.out _).mono ?_
  rintro e w1 ⟨⟨v1, rfl, hv1⟩, hk1⟩
  have HV1 := Lib.hid hv1
  have HK1 := Lib.hid hk1
  clear hv1 hk1
  go_wp2_with fail
  refine (HM1.out _).mono ?_
  rintro e w2 ⟨⟨v2, rfl, hv2⟩, hk2⟩
  obtain ⟨u1, u2, rfl, h1, h2⟩ := hv2
  have H1 := Lib.hid h1
  have H2 := Lib.hid h2
  obtain ⟨a1, c1, rfl⟩ := h1.shape
  obtain ⟨a2, c2, rfl⟩ := h2.shape
  have HK2 := Lib.hid hk2
  have hr2 := RowAt.made w2 #[.bool (canR (mkRat 1 10)).neg, .slice a1 (canR (mkRat 1 10)).num.length c1, .slice a2 (canR (mkRat 1 10)).den.length c2] 31
  obtain ⟨w3, hw3⟩ : ∃ w3, w3 = w2.alloc (.cells #[.bool (canR (mkRat 1 10)).neg, .slice a1 (canR (mkRat 1 10)).num.length c1, .slice a2 (canR (mkRat 1 10)).den.length c2] 31) := ⟨_, rfl⟩
  have HK3 : Hid (Kept w2 w3) := Lib.hid (by rw [hw3]; exact (Kept.refl _).alloc _)
  rw [← hw3] at hr2
  have HR3 := Lib.hid hr2
  have HW3 := Lib.hid hw3
  generalize hn1 : (canR (mkRat 1 10)).neg = n1 at *
  generalize hl1 : (canR (mkRat 1 10)).num.length = l1 at *
  generalize hm1 : (canR (mkRat 1 10)).den.length = m1 at *
  have HL1 := Lib.hid (And.intro hn1 (And.intro hl1 hm1))
  clear h1 h2 hk2 hr2 hw3 hn1 hl1 hm1
  go_wp2_with fail
  rw [← HW3.out]
  refine (HM2.out _).mono ?_
  rintro e w4 ⟨⟨v4, rfl, hv4⟩, hk4⟩
  obtain ⟨u3, u4, rfl, h3, h4⟩ := hv4
  have H3 := Lib.hid h3
  have H4 := Lib.hid h4
  obtain ⟨a3, c3, rfl⟩ := h3.shape
  obtain ⟨a4, c4, rfl⟩ := h4.shape
  have HK4 := Lib.hid hk4
  have hr4 := RowAt.made w4 #[.bool (canR (mkRat 1 5)).neg, .slice a3 (canR (mkRat 1 5)).num.length c3, .slice a4 (canR (mkRat 1 5)).den.length c4] 31
  obtain ⟨w5, hw5⟩ : ∃ w5, w5 = w4.alloc (.cells #[.bool (canR (mkRat 1 5)).neg, .slice a3 (canR (mkRat 1 5)).num.length c3, .slice a4 (canR (mkRat 1 5)).den.length c4] 31) := ⟨_, rfl⟩
  have HK5 : Hid (Kept w4 w5) := Lib.hid (by rw [hw5]; exact (Kept.refl _).alloc _)
  rw [← hw5] at hr4
  have HR5 := Lib.hid hr4
  have HW5 := Lib.hid hw5
  generalize hn1 : (canR (mkRat 1 5)).neg = n2 at *
  generalize hl1 : (canR (mkRat 1 5)).num.length = l2 at *
  generalize hm1 : (canR (mkRat 1 5)).den.length = m2 at *
  have HL2 := Lib.hid (And.intro hn1 (And.intro hl1 hm1))
  clear h3 h4 hk4 hr4 hw5 hn1 hl1 hm1
  go_wp2_with fail
  rw [← HW5.out]
  refine (HM3.out _).mono ?_
  rintro e w6 ⟨⟨v6, rfl, hv6⟩, hk6⟩
  obtain ⟨u5, u6, rfl, h5, h6⟩ := hv6
  have H5 := Lib.hid h5
  have H6 := Lib.hid h6
  obtain ⟨a5, c5, rfl⟩ := h5.shape
  obtain ⟨a6, c6, rfl⟩ := h6.shape
  have HK6 := Lib.hid hk6
  have hr6 := RowAt.made w6 #[.bool (canR (mkRat 1 4)).neg, .slice a5 (canR (mkRat 1 4)).num.length c5, .slice a6 (canR (mkRat 1 4)).den.length c6] 31
  obtain ⟨w7, hw7⟩ : ∃ w7, w7 = w6.alloc (.cells #[.bool (canR (mkRat 1 4)).neg, .slice a5 (canR (mkRat 1 4)).num.length c5, .slice a6 (canR (mkRat 1 4)).den.length c6] 31) := ⟨_, rfl⟩
  have HK7 : Hid (Kept w6 w7) := Lib.hid (by rw [hw7]; exact (Kept.refl _).alloc _)
  rw [← hw7] at hr6
  have HW7 := Lib.hid hw7
  have HK57 := Lib.hid (HK6.out.trans HK7.out)
  have HK37 := Lib.hid ((HK4.out.trans HK5.out).trans HK57.out)
  have HK17 := Lib.hid (HK2.out.trans (HK3.out.trans HK37.out))
  have HK56 := Lib.hid HK6.out
  have HK36 := Lib.hid ((HK4.out.trans HK5.out).trans HK6.out)
  have z0 := (HR3.out.kept HK36.out).cell (i := 0) (by simp)
  have z1 := (HR3.out.kept HK36.out).cell (i := 1) (by simp)
  have z2 := (HR3.out.kept HK36.out).cell (i := 2) (by simp)
  have y0 := (HR5.out.kept HK56.out).cell (i := 0) (by simp)
  have y1 := (HR5.out.kept HK56.out).cell (i := 1) (by simp)
  have y2 := (HR5.out.kept HK56.out).cell (i := 2) (by simp)
  simp only [List.getElem_cons_succ, List.getElem_cons_zero] at y0 y1 y2 z0 z1 z2
  have HRT := Lib.hid (rats_three (w := w7) (r1 := canR (mkRat 1 10)) (r2 := canR (mkRat 1 5)) (r3 := canR (mkRat 1 4)) (H1.out.kept (HK3.out.trans HK37.out)) (H2.out.kept (HK3.out.trans HK37.out)) (H3.out.kept (HK5.out.trans HK57.out)) (H4.out.kept (HK5.out.trans HK57.out)) (H5.out.kept HK7.out) (H6.out.kept HK7.out))
  have HV7 := Lib.hid (HV1.out.kept HK17.out)
  have hs7 : w7.heap.size = w6.heap.size + 1 := by rw [hw7]; simp
  rw [hs7] at HRT
  have hlt1 := (HR3.out.kept HK36.out).lt
  have hlt2 := (HR5.out.kept HK56.out).lt
  rw [HL1.out.1, HL2.out.1] at HRT
  generalize hn1 : (canR (mkRat 1 4)).neg = n3 at *
  generalize hl1 : (canR (mkRat 1 4)).num.length = l3 at *
  generalize hm1 : (canR (mkRat 1 4)).den.length = m3 at *
  clear h5 h6 hk6 hr6 hw7 hs7 hn1 hl1 hm1
  go_wp2_with fail
  rw [← HW7.out]
  obtain ⟨w8, hw8⟩ : ∃ w8, w8 = w7.alloc (.cells #[.bool n1, .slice a1 l1 c1, .slice a2 m1 c2, .bool n2, .slice a3 l2 c3, .slice a4 m2 c4, .bool n3, .slice a5 l3 c5, .slice a6 m3 c6] 31) := ⟨_, rfl⟩
  rw [← hw8] at HRT ⊢
  have HK8 : Hid (Kept w7 w8) := Lib.hid (by rw [hw8]; exact (Kept.refl _).alloc _)
  clear hw8
  refine (HPB.out _ _ _ (HV7.out.kept HK8.out) HRT.out).mono ?_
  rintro e w9 ⟨⟨v9, rfl, hv9⟩, hk9⟩
  have HV9 := Lib.hid hv9
  obtain ⟨u7, u8, rfl, h7, h8⟩ := hv9
  obtain ⟨a7, c7, rfl⟩ := h7.shape
  obtain ⟨a8, c8, rfl⟩ := h8.shape
  have HK9 := Lib.hid (HK8.out.trans hk9)
  have HVC := Lib.hid (HV7.out.kept HK9.out)
  have hr9 := RowAt.made w9 #[.bool (canR (mkRat 29 200)).neg, .slice a7 (canR (mkRat 29 200)).num.length c7, .slice a8 (canR (mkRat 29 200)).den.length c8] 31
  obtain ⟨w10, hw10⟩ : ∃ w10, w10 = w9.alloc (.cells #[.bool (canR (mkRat 29 200)).neg, .slice a7 (canR (mkRat 29 200)).num.length c7, .slice a8 (canR (mkRat 29 200)).den.length c8] 31) := ⟨_, rfl⟩
  have HK10 : Hid (Kept w9 w10) := Lib.hid (by rw [hw10]; exact (Kept.refl _).alloc _)
  rw [← hw10] at hr9
  have HW10 := Lib.hid hw10
  have HR10 := Lib.hid hr9
  have HVA := Lib.hid (HVC.out.kept HK10.out)
  obtain ⟨w11, hw11⟩ : ∃ w11, w11 = w10.alloc (.cells #[.int .i64 1, .int .i64 0, .int .i64 6, .int .i64 1] 77) := ⟨_, rfl⟩
  have HC11 : Hid (CbsAt w11 (.slice (some ⟨w10.heap.size, 0, none⟩) 2 2) (ofCs [(1, 0), (6, 1)])) := Lib.hid (by rw [hw11]; exact cbs_two w10)
  have hs10 : w10.heap.size = w9.heap.size + 1 := by rw [hw10]; simp
  rw [hs10] at HC11
  have HK11 : Hid (Kept w10 w11) := Lib.hid (by rw [hw11]; exact (Kept.refl _).alloc _)
  have HW11 := Lib.hid hw11
  have HCE := Lib.hid (HCB.out w11 _ _ (HVA.out.kept HK11.out) HC11.out)
  have HV10 := Lib.hid (HV9.out.kept (HK10.out.trans HK11.out))
  generalize (canR (mkRat 29 200)).neg = n4 at *
  generalize (canR (mkRat 29 200)).num.length = l4 at *
  generalize (canR (mkRat 29 200)).den.length = m4 at *
  clear h7 h8 hk9 hr9 hw10 hw11 hs10 y0 y1 y2 z0 z1 z2 hlt1 hlt2
  go_wp2_with fail
  rw [← HW10.out, ← HW11.out]
  refine HCE.out.mono ?_
  rintro e w12 ⟨rfl, hk12⟩
  have g0 := (HR10.out.kept (HK11.out.trans hk12)).cell (i := 0) (by simp)
  have g1 := (HR10.out.kept (HK11.out.trans hk12)).cell (i := 1) (by simp)
  have g2 := (HR10.out.kept (HK11.out.trans hk12)).cell (i := 2) (by simp)
  simp only [List.getElem_cons_succ, List.getElem_cons_zero] at g0 g1 g2
  have HTT := Lib.hid (HTX.out _ _ (HV10.out.kept hk12))
  have HK12 := Lib.hid hk12
  clear hk12
  go_wp2_with fail
  refine HTT.out.mono ?_
  rintro e w13 ⟨rfl, hk13⟩
  go_wp2
  go_ret
  exact ⟨rfl, HK1.out.trans (HK17.out.trans (HK9.out.trans (HK10.out.trans (HK11.out.trans (HK12.out.trans hk13)))))⟩
end Go.Proofs.YthiemjodcklejaaGreatDoor

/-
  Walk: the law DisjointCubes returns true, whatever the list.
-/
namespace Go.Proofs.YthiemjodcklejaaGreatDoor
open Go.RowKit

theorem chkI_le (xs : List Int) : chkI xs ≤ 13 := by
  unfold chkI
  rcases err_cases xs with h | h | h <;> rw [h] <;> simp <;> (try split) <;> (try split) <;> omega
theorem cubR_le (xs : List Int) : (cubR xs).1 ≤ 13 := by
  unfold cubR
  split
  · exact chkI_le xs
  · split <;> simp
end Go.Proofs.YthiemjodcklejaaGreatDoor

/-
  Walks: Top of disjoint and of the reference. Printed by gen_I23.py.
-/
namespace Go.Proofs.YthiemjodcklejaaGreatDoor
open Go.RowKit

/-- What Top answers to an accepted formula of V events whose cut sets are X (q0: the error of Cuts). -/
def topR (q0 : Nat) (X : List Int) (V : Nat) (ps : List Rw) : Nat × Rat :=
  if ps.length ≠ V then (11, 0) else if badR ps = true then (3, 0) else if q0 ≠ 0 then (q0, 0) else if (cubR X).1 ≠ 0 then ((cubR X).1, 0) else (0, sumWs ps (cubR X).2 (cubR X).2.length)
theorem cubR_some {xs : List Int} (h : (cubR xs).1 = 0) : cubesK (natsI xs) = some (cubR xs).2 := by
  unfold cubR at h ⊢
  by_cases h0 : chkI xs = 0
  · rw [if_neg (by omega)] at h ⊢
    cases hc : cubesK (natsI xs) with
    | none => rw [hc] at h; cases h
    | some l => rfl
  · rw [if_pos h0] at h; exact absurd h h0
theorem box_at {w : World} {g : Nat} {e : TypeId} {x y z : Value} (h : RowAt w g e [x, y, z]) : w.cell? ⟨g, 0, none⟩ = some x ∧ w.cell? ⟨g, 1, none⟩ = some y ∧ w.cell? ⟨g, 2, none⟩ = some z := by
  have h0 := h.cell (i := 0) (by simp)
  have h1 := h.cell (i := 1) (by simp)
  have h2 := h.cell (i := 2) (by simp)
  exact ⟨by simpa using h0, by simpa using h1, by simpa using h2⟩
set_option maxRecDepth 100000 in
set_option maxHeartbeats 16000000 in
theorem dtop_any (v pv : Value) (V T q0 : Nat) (X : List Int) (ps : List Rw) (w : World) (hsv : ∃ a n c, v = .slice a n c) (hq0 : q0 ≤ 100)
    (hck : ∀ W, Kept w W → Calls Tryz.prog 20 #[.agg #[.int .i64 V, v, .int .i64 T]] W fun e w' => e = .returned .nilIface ∧ Kept W w')
    (hXb : (cubR X).1 = 0 → ∀ c ∈ (cubR X).2, c.1 < 16777216 ∧ c.2 < 16777216)
    (hcu : ∀ W, Kept w W → Calls Tryz.prog 44 #[.agg #[.int .i64 V, v, .int .i64 T]] W fun e w' => (∃ v', e = .returned (.tuple #[v', errV q0]) ∧ IntsAt w' v' X) ∧ Kept W w')
    (hv : RatsAt w pv ps) (hp3 : ∀ r ∈ ps, r.Short 3) (hp30 : ps.length ≤ 30) :
    Calls Tryz.prog 14 #[.agg #[.int .i64 V, v, .int .i64 T], pv] w fun e w' => (∃ v', e = .returned (.tuple #[v', errV (topR q0 X V ps).1]) ∧ RatAt w' v' (canR (topR q0 X V ps).2)) ∧ Kept w w' := by
  have HBA := Lib.hid (fun W (h : Kept w W) => dbad_any pv ps W (hv.kept h) (fun r hr => ⟨Nat.le_trans (hp3 r hr).1 (by omega), Nat.le_trans (hp3 r hr).2 (by omega)⟩))
  have HCU := Lib.hid hcu
  have HCB := Lib.hid (fun va W (h : IntsAt W va X) => cubes_any va X W h)
  have hc13 := cubR_le X
  have HCH := Lib.hid hck
  obtain ⟨QQ, hQQ⟩ : ∃ QQ, QQ = topR q0 X V ps := ⟨_, rfl⟩
  rw [← hQQ]
  unfold topR at hQQ
  obtain ⟨qc, hqc⟩ : ∃ qc, qc = (cubR X).1 := ⟨_, rfl⟩
  obtain ⟨out, hout⟩ : ∃ out, out = (cubR X).2 := ⟨_, rfl⟩
  rw [← hqc, ← hout] at hQQ
  rw [← hqc, ← hout] at HCB
  rw [← hqc] at hc13
  have HXB : Hid (qc = 0 → ∀ c ∈ out, c.1 < 16777216 ∧ c.2 < 16777216) := Lib.hid (by rw [hqc, hout]; exact hXb)
  have HLEN : Hid (qc = 0 → out.length ≤ 1024) := Lib.hid (by
    rw [hqc, hout]
    intro h
    exact cubes_len (cubR_some h))
  have HPV := Lib.hid hv
  have H3 := Lib.hid hp3
  have H30 := Lib.hid hp30
  obtain ⟨a, n, c, rfl⟩ := hsv
  obtain ⟨pa, pc, rfl⟩ := hv.shape
  obtain ⟨pn, hpn⟩ : ∃ pn, pn = ps.length := ⟨_, rfl⟩
  rw [← hpn] at HBA hQQ HPV ⊢
  have HPN := Lib.hid hpn
  obtain ⟨w1, hw1⟩ : ∃ w1, w1 = w.alloc (.cells #[.int .i64 V, .slice a n c, .int .i64 T] 24) := ⟨_, rfl⟩
  have HS1 : Hid (w1.heap.size = w.heap.size + 1) := Lib.hid (by rw [hw1]; simp)
  have hx1 : RowAt w1 w.heap.size 24 [.int .i64 V, .slice a n c, .int .i64 T] := by rw [hw1]; exact RowAt.made w #[.int .i64 V, .slice a n c, .int .i64 T] 24
  have hk1 : Kept w w1 := by rw [hw1]; exact (Kept.refl _).alloc _
  obtain ⟨w2, hw2⟩ : ∃ w2, w2 = w1.alloc (.cells #[.bool false, .slice none 0 0, .slice none 0 0] 31) := ⟨_, rfl⟩
  have HR2 : Hid (RowAt w2 w1.heap.size 31 [.bool false, .slice none 0 0, .slice none 0 0]) := Lib.hid (by rw [hw2]; exact RowAt.made w1 #[.bool false, .slice none 0 0, .slice none 0 0] 31)
  have HF2 : Hid (FixAt w2 w1.heap.size [.bool false, .slice none 0 0, .slice none 0 0]) := Lib.hid (by rw [hw2]; exact FixAt.made w1 #[.bool false, .slice none 0 0, .slice none 0 0] 31)
  have hk2 : Kept w1 w2 := by rw [hw2]; exact (Kept.refl _).alloc _
  have HX2 := Lib.hid (hx1.kept hk2)
  have HK2 := Lib.hid (hk1.trans hk2)
  have HW1 := Lib.hid hw1
  have HW2 := Lib.hid hw2
  have HQQ := Lib.hid hQQ
  clear hv hp3 hp30 hcu hw1 hw2 hx1 hk1 hk2 hpn hqc hout hQQ hck hXb
  by_cases hpv : pn = V
  · subst hpv
    cases hbad : badR ps with
    | true =>
      have HQV : Hid (QQ.1 = 3 ∧ QQ.2 = 0) := Lib.hid (by rw [HQQ.out, if_neg (by simp), if_pos hbad]; exact ⟨rfl, rfl⟩)
      rw [hbad] at HBA
      clear hbad
      go_enter Tryz.func14, Tryz.ntmps14
      go_wp2_with fail
      rw [← HW1.out, ← HS1.out, ← HW2.out]
      refine (HCH.out _ HK2.out).mono ?_
      rintro e w3 ⟨rfl, hk3⟩
      have HR3 := Lib.hid (HR2.out.kept hk3)
      have HF3 := Lib.hid (HF2.out.kept hk3)
      have HX3 := Lib.hid (HX2.out.kept hk3)
      have HK3 := Lib.hid (HK2.out.trans hk3)
      obtain ⟨c0, c1, c2⟩ := box_at HX3.out
      clear hk3
      go_wp2_with fail
      refine (HBA.out _ HK3.out).mono ?_
      rintro e w4 ⟨rfl, hk4⟩
      have HR4 := Lib.hid (HR3.out.kept hk4)
      have HF4 := Lib.hid (HF3.out.kept hk4)
      have HX4 := Lib.hid (HX3.out.kept hk4)
      have HK4 := Lib.hid (HK3.out.trans hk4)
      obtain ⟨c0, c1, c2⟩ := box_at HX4.out
      clear hk4
      have hr5 := HR4.out
      obtain ⟨y0, y1, y2, hra⟩ := rat_stored (r := ⟨false, [], []⟩) hr5 HF4.out (WdsAt.nil _) (WdsAt.nil _)
      have Y := Lib.hid (And.intro y0 (And.intro y1 y2))
      have HRA := Lib.hid hra
      have g0 := hr5.cell (i := 0) (by simp)
      have g1 := hr5.cell (i := 1) (by simp)
      have g2 := hr5.cell (i := 2) (by simp)
      have f0 := hr5.free 0
      have f1 := hr5.free 1
      have f2 := hr5.free 2
      have hlt5 := hr5.lt
      have HL5 : Hid (w.heap.size ≤ w1.heap.size) := Lib.hid (by have := HS1.out; omega)
      clear hr5 y0 y1 y2 hra
      go_wp2
      refine bodyPost_ret (v := .tuple #[.agg #[.bool false, .slice none 0 0, .slice none 0 0], errV 3]) ?_ rfl ⟨⟨_, by rw [HQV.out.1], by rw [HQV.out.2, canR_zero]; exact HRA.out⟩, ?_⟩
      · simp [results, Tryz.results14, go_sem, Y.out.1, Y.out.2.1, Y.out.2.2, errV]
      · exact ((HK4.out.store HL5.out _ _).store HL5.out _ _).store HL5.out _ _
    | false =>
      rw [hbad] at HBA
      by_cases hq : q0 = 0
      · subst hq
        by_cases hc0 : qc = 0
        · subst hc0
          have HQV : Hid (QQ.1 = 0 ∧ QQ.2 = sumWs ps out out.length) := Lib.hid (by rw [HQQ.out, if_neg (by simp), if_neg (by rw [hbad]; simp), if_neg (by simp), if_neg (by simp)]; exact ⟨rfl, rfl⟩)
          have HOL := Lib.hid (HLEN.out rfl)
          clear hbad
          rw [errV_zero] at HCU HCB
          go_enter Tryz.func14, Tryz.ntmps14
          go_wp2_with fail
          rw [← HW1.out, ← HS1.out, ← HW2.out]
          refine (HCH.out _ HK2.out).mono ?_
          rintro e w3 ⟨rfl, hk3⟩
          have HR3 := Lib.hid (HR2.out.kept hk3)
          have HF3 := Lib.hid (HF2.out.kept hk3)
          have HX3 := Lib.hid (HX2.out.kept hk3)
          have HK3 := Lib.hid (HK2.out.trans hk3)
          obtain ⟨c0, c1, c2⟩ := box_at HX3.out
          clear hk3
          go_wp2_with fail
          refine (HBA.out _ HK3.out).mono ?_
          rintro e w4 ⟨rfl, hk4⟩
          have HR4 := Lib.hid (HR3.out.kept hk4)
          have HF4 := Lib.hid (HF3.out.kept hk4)
          have HX4 := Lib.hid (HX3.out.kept hk4)
          have HK4 := Lib.hid (HK3.out.trans hk4)
          obtain ⟨c0, c1, c2⟩ := box_at HX4.out
          clear hk4
          go_wp2_with fail
          refine (HCU.out _ HK4.out).mono ?_
          rintro e w5 ⟨⟨v5, rfl, hv5⟩, hk5⟩
          have HI5 := Lib.hid hv5
          have HR5 := Lib.hid (HR4.out.kept hk5)
          have HF5 := Lib.hid (HF4.out.kept hk5)
          have HX5 := Lib.hid (HX4.out.kept hk5)
          have HK5 := Lib.hid (HK4.out.trans hk5)
          obtain ⟨c0, c1, c2⟩ := box_at HX5.out
          clear hk5
          obtain ⟨a5, n5, c5, rfl⟩ := hv5.shape
          clear hv5
          go_wp2_with fail
          refine (HCB.out _ _ HI5.out).mono ?_
          rintro e w6 ⟨⟨v6, rfl, hv6⟩, hk6⟩
          have HV6 := Lib.hid hv6
          have HR6 := Lib.hid (HR5.out.kept hk6)
          have HF6 := Lib.hid (HF5.out.kept hk6)
          have HX6 := Lib.hid (HX5.out.kept hk6)
          have HK6 := Lib.hid (HK5.out.trans hk6)
          obtain ⟨c0, c1, c2⟩ := box_at HX6.out
          clear hk6
          obtain ⟨a6, c6, rfl⟩ := hv6.shape
          rw [ofCs_len] at HV6 ⊢
          clear hv6
          obtain ⟨R, hR⟩ : ∃ R, R = canR QQ.2 := ⟨_, rfl⟩
          have HRR := Lib.hid hR
          have HTO := Lib.hid (fun W (h : Kept w6 W) => dtotal_any _ _ out ps W (HV6.out.kept h) (HXB.out (by simp)) HOL.out (HPV.out.kept (HK6.out.trans h)) H3.out H30.out)
          rw [← HQV.out.2, ← hR] at HTO
          clear hR
          go_wp2_with fail
          refine (HTO.out _ (Kept.refl _)).mono ?_
          rintro e w7 ⟨⟨v7, rfl, hv7⟩, hk7⟩
          have hrr := HR6.out.kept hk7
          have Hdisjoint.Top := Lib.hid (HF6.out.kept hk7)
          have HK7 := Lib.hid (HK6.out.trans hk7)
          obtain ⟨u7, u8, rfl, k7, k8⟩ := hv7
          obtain ⟨a7, c7, rfl⟩ := k7.shape
          obtain ⟨a8, c8, rfl⟩ := k8.shape
          obtain ⟨y0, y1, y2, hra⟩ := rat_stored hrr Hdisjoint.Top.out k7 k8
          have g0 := hrr.cell (i := 0) (by simp)
          have g1 := hrr.cell (i := 1) (by simp)
          have g2 := hrr.cell (i := 2) (by simp)
          have f0 := hrr.free 0
          have f1 := hrr.free 1
          have f2 := hrr.free 2
          have hlt5 := hrr.lt
          have HRA := Lib.hid hra
          have Y := Lib.hid (And.intro y0 (And.intro y1 y2))
          have HL5 : Hid (w.heap.size ≤ w1.heap.size) := Lib.hid (by have := HS1.out; omega)
          clear hra y0 y1 y2 k7 k8 hrr hk7
          generalize R.num.length = n7 at *
          generalize R.den.length = n8 at *
          go_wp2
          refine bodyPost_ret (v := .tuple #[.agg #[.bool R.neg, .slice a7 n7 c7, .slice a8 n8 c8], .nilIface]) ?_ rfl ⟨⟨_, by rw [HQV.out.1]; rfl, by rw [← HRR.out]; exact HRA.out⟩, ?_⟩
          · simp [results, Tryz.results14, go_sem, Y.out.1, Y.out.2.1, Y.out.2.2]
          · exact ((HK7.out.store HL5.out _ _).store HL5.out _ _).store HL5.out _ _
        · have HQV : Hid (QQ.1 = qc ∧ QQ.2 = 0) := Lib.hid (by rw [HQQ.out, if_neg (by simp), if_neg (by rw [hbad]; simp), if_neg (by simp), if_pos hc0]; exact ⟨rfl, rfl⟩)
          clear hbad
          rw [errV_pos hc0] at HCB
          rw [errV_zero] at HCU
          go_enter Tryz.func14, Tryz.ntmps14
          go_wp2_with fail
          rw [← HW1.out, ← HS1.out, ← HW2.out]
          refine (HCH.out _ HK2.out).mono ?_
          rintro e w3 ⟨rfl, hk3⟩
          have HR3 := Lib.hid (HR2.out.kept hk3)
          have HF3 := Lib.hid (HF2.out.kept hk3)
          have HX3 := Lib.hid (HX2.out.kept hk3)
          have HK3 := Lib.hid (HK2.out.trans hk3)
          obtain ⟨c0, c1, c2⟩ := box_at HX3.out
          clear hk3
          go_wp2_with fail
          refine (HBA.out _ HK3.out).mono ?_
          rintro e w4 ⟨rfl, hk4⟩
          have HR4 := Lib.hid (HR3.out.kept hk4)
          have HF4 := Lib.hid (HF3.out.kept hk4)
          have HX4 := Lib.hid (HX3.out.kept hk4)
          have HK4 := Lib.hid (HK3.out.trans hk4)
          obtain ⟨c0, c1, c2⟩ := box_at HX4.out
          clear hk4
          go_wp2_with fail
          refine (HCU.out _ HK4.out).mono ?_
          rintro e w5 ⟨⟨v5, rfl, hv5⟩, hk5⟩
          have HI5 := Lib.hid hv5
          have HR5 := Lib.hid (HR4.out.kept hk5)
          have HF5 := Lib.hid (HF4.out.kept hk5)
          have HX5 := Lib.hid (HX4.out.kept hk5)
          have HK5 := Lib.hid (HK4.out.trans hk5)
          obtain ⟨c0, c1, c2⟩ := box_at HX5.out
          clear hk5
          obtain ⟨a5, n5, c5, rfl⟩ := hv5.shape
          clear hv5
          go_wp2_with fail
          refine (HCB.out _ _ HI5.out).mono ?_
          rintro e w6 ⟨⟨v6, rfl, hv6⟩, hk6⟩
          have HR6 := Lib.hid (HR5.out.kept hk6)
          have HF6 := Lib.hid (HF5.out.kept hk6)
          have HX6 := Lib.hid (HX5.out.kept hk6)
          have HK6 := Lib.hid (HK5.out.trans hk6)
          obtain ⟨c0, c1, c2⟩ := box_at HX6.out
          clear hk6
          obtain ⟨a6, c6, rfl⟩ := hv6.shape
          clear hv6
          have hr5 := HR6.out
          obtain ⟨y0, y1, y2, hra⟩ := rat_stored (r := ⟨false, [], []⟩) hr5 HF6.out (WdsAt.nil _) (WdsAt.nil _)
          have Y := Lib.hid (And.intro y0 (And.intro y1 y2))
          have HRA := Lib.hid hra
          have g0 := hr5.cell (i := 0) (by simp)
          have g1 := hr5.cell (i := 1) (by simp)
          have g2 := hr5.cell (i := 2) (by simp)
          have f0 := hr5.free 0
          have f1 := hr5.free 1
          have f2 := hr5.free 2
          have hlt5 := hr5.lt
          have HL5 : Hid (w.heap.size ≤ w1.heap.size) := Lib.hid (by have := HS1.out; omega)
          clear hr5 y0 y1 y2 hra
          go_wp2
          refine bodyPost_ret (v := .tuple #[.agg #[.bool false, .slice none 0 0, .slice none 0 0], .iface 45 (.int .i64 qc)]) ?_ rfl ⟨⟨_, by rw [HQV.out.1]; rw [errV_pos hc0], by rw [HQV.out.2, canR_zero]; exact HRA.out⟩, ?_⟩
          · simp [results, Tryz.results14, go_sem, Y.out.1, Y.out.2.1, Y.out.2.2]
          · exact ((HK6.out.store HL5.out _ _).store HL5.out _ _).store HL5.out _ _
      · have HQV : Hid (QQ.1 = q0 ∧ QQ.2 = 0) := Lib.hid (by rw [HQQ.out, if_neg (by simp), if_neg (by rw [hbad]; simp), if_pos hq]; exact ⟨rfl, rfl⟩)
        clear hbad
        rw [errV_pos hq] at HCU
        go_enter Tryz.func14, Tryz.ntmps14
        go_wp2_with fail
        rw [← HW1.out, ← HS1.out, ← HW2.out]
        refine (HCH.out _ HK2.out).mono ?_
        rintro e w3 ⟨rfl, hk3⟩
        have HR3 := Lib.hid (HR2.out.kept hk3)
        have HF3 := Lib.hid (HF2.out.kept hk3)
        have HX3 := Lib.hid (HX2.out.kept hk3)
        have HK3 := Lib.hid (HK2.out.trans hk3)
        obtain ⟨c0, c1, c2⟩ := box_at HX3.out
        clear hk3
        go_wp2_with fail
        refine (HBA.out _ HK3.out).mono ?_
        rintro e w4 ⟨rfl, hk4⟩
        have HR4 := Lib.hid (HR3.out.kept hk4)
        have HF4 := Lib.hid (HF3.out.kept hk4)
        have HX4 := Lib.hid (HX3.out.kept hk4)
        have HK4 := Lib.hid (HK3.out.trans hk4)
        obtain ⟨c0, c1, c2⟩ := box_at HX4.out
        clear hk4
        go_wp2_with fail
        refine (HCU.out _ HK4.out).mono ?_
        rintro e w5 ⟨⟨v5, rfl, hv5⟩, hk5⟩
        have HR5 := Lib.hid (HR4.out.kept hk5)
        have HF5 := Lib.hid (HF4.out.kept hk5)
        have HX5 := Lib.hid (HX4.out.kept hk5)
        have HK5 := Lib.hid (HK4.out.trans hk5)
        obtain ⟨c0, c1, c2⟩ := box_at HX5.out
        clear hk5
        obtain ⟨a5, n5, c5, rfl⟩ := hv5.shape
        clear hv5
        have hr5 := HR5.out
        obtain ⟨y0, y1, y2, hra⟩ := rat_stored (r := ⟨false, [], []⟩) hr5 HF5.out (WdsAt.nil _) (WdsAt.nil _)
        have Y := Lib.hid (And.intro y0 (And.intro y1 y2))
        have HRA := Lib.hid hra
        have g0 := hr5.cell (i := 0) (by simp)
        have g1 := hr5.cell (i := 1) (by simp)
        have g2 := hr5.cell (i := 2) (by simp)
        have f0 := hr5.free 0
        have f1 := hr5.free 1
        have f2 := hr5.free 2
        have hlt5 := hr5.lt
        have HL5 : Hid (w.heap.size ≤ w1.heap.size) := Lib.hid (by have := HS1.out; omega)
        clear hr5 y0 y1 y2 hra
        go_wp2
        refine bodyPost_ret (v := .tuple #[.agg #[.bool false, .slice none 0 0, .slice none 0 0], .iface 45 (.int .i64 q0)]) ?_ rfl ⟨⟨_, by rw [HQV.out.1]; rw [errV_pos hq], by rw [HQV.out.2, canR_zero]; exact HRA.out⟩, ?_⟩
        · simp [results, Tryz.results14, go_sem, Y.out.1, Y.out.2.1, Y.out.2.2]
        · exact ((HK5.out.store HL5.out _ _).store HL5.out _ _).store HL5.out _ _
  · have HQV : Hid (QQ.1 = 11 ∧ QQ.2 = 0) := Lib.hid (by rw [HQQ.out, if_pos hpv]; exact ⟨rfl, rfl⟩)
    have hne : ((pn : Int) != (V : Int)) = true := by simp; omega
    have hne2 : ¬ (pn : Int) = (V : Int) := by omega
    go_enter Tryz.func14, Tryz.ntmps14
    go_wp2_with fail
    rw [← HW1.out, ← HS1.out, ← HW2.out]
    refine (HCH.out _ HK2.out).mono ?_
    rintro e w3 ⟨rfl, hk3⟩
    have HR3 := Lib.hid (HR2.out.kept hk3)
    have HF3 := Lib.hid (HF2.out.kept hk3)
    have HX3 := Lib.hid (HX2.out.kept hk3)
    have HK3 := Lib.hid (HK2.out.trans hk3)
    obtain ⟨c0, c1, c2⟩ := box_at HX3.out
    clear hk3
    have hr5 := HR3.out
    obtain ⟨y0, y1, y2, hra⟩ := rat_stored (r := ⟨false, [], []⟩) hr5 HF3.out (WdsAt.nil _) (WdsAt.nil _)
    have Y := Lib.hid (And.intro y0 (And.intro y1 y2))
    have HRA := Lib.hid hra
    have g0 := hr5.cell (i := 0) (by simp)
    have g1 := hr5.cell (i := 1) (by simp)
    have g2 := hr5.cell (i := 2) (by simp)
    have f0 := hr5.free 0
    have f1 := hr5.free 1
    have f2 := hr5.free 2
    have hlt5 := hr5.lt
    have HL5 : Hid (w.heap.size ≤ w1.heap.size) := Lib.hid (by have := HS1.out; omega)
    clear hr5 y0 y1 y2 hra
    go_wp2
    refine bodyPost_ret (v := .tuple #[.agg #[.bool false, .slice none 0 0, .slice none 0 0], errV 11]) ?_ rfl ⟨⟨_, by rw [HQV.out.1], by rw [HQV.out.2, canR_zero]; exact HRA.out⟩, ?_⟩
    · simp [results, Tryz.results14, go_sem, Y.out.1, Y.out.2.1, Y.out.2.2, errV]
    · exact ((HK3.out.store HL5.out _ _).store HL5.out _ _).store HL5.out _ _
end Go.Proofs.YthiemjodcklejaaGreatDoor

/-
  The law TopdownMinimal returns true, whatever the formula. (Printed by gen_W7.py.)
-/
namespace Go.Proofs.YthiemjodcklejaaGreatDoor
open Go.RowKit Go.ChangeShapes Go.WideShapes Go.ChangeAt Go.Joins Go.Deep

theorem valsUp_congr (V s t : Nat) (nodes : List Nd) (h : ∀ i, i < V → s.testBit i = t.testBit i) : ∀ k, valsUp V s nodes k = valsUp V t nodes k := by
  intro k
  induction k with
  | zero => unfold valsUp; exact List.map_congr_left fun i hi => h i (by simpa using hi)
  | succ k ih => unfold valsUp; rw [ih]
end Go.Proofs.YthiemjodcklejaaGreatDoor

/-
  Plain: the reference's Prob of a formula's cubes is the sum of the weights.
-/
namespace Go.Proofs.YthiemjodcklejaaGreatDoor
open Go.RowKit

def BitsV (V : Nat) (c : Nat × Nat) : Prop := (∀ j, c.1.testBit j = true → j < V) ∧ ∀ j, c.2.testBit j = true → j < V
theorem less_bits {V b : Nat} {c : Nat × Nat} (hb : ∀ j, b.testBit j = true → j < V) (hc : BitsV V c) : ∀ d ∈ lessK c b, BitsV V d := by
  have hel : ∀ {i x : Nat}, i ∈ elemsK x → x.testBit i = true := fun {i x} h => (List.mem_filter.1 h).2
  intro d hd
  unfold lessK at hd
  split at hd
  · rw [List.mem_singleton] at hd; rw [hd]; exact hc
  · have hlow : ∀ i ∈ elemsK (sdiff b c.1), i < V := fun i hi => by
      have := hel hi
      rw [sdiff_bit, Bool.and_eq_true] at this
      exact hb i this.1
    refine lessL_all (Pr := BitsV V) (elems_nodup _) (fun i hi => ?_) ?_ d hd
    · have := hel hi
      rw [sdiff_bit, Bool.and_eq_true] at this
      simpa using this.2
    · intro y' i hi h4 _ _
      refine ⟨fun j hj => ?_, fun j hj => ?_⟩
      · rcases h4 j hj with h | h
        · exact hc.1 j h
        · exact hlow j h
      · replace hj : (c.2 ||| 2 ^ i).testBit j = true := hj
        rw [Nat.testBit_or, Nat.testBit_two_pow, Bool.or_eq_true, decide_eq_true_eq] at hj
        rcases hj with h | rfl
        · exact hc.2 j h
        · exact hlow i hi
theorem pow_bits {V x : Nat} (h : x < 2 ^ V) : ∀ j, x.testBit j = true → j < V := fun j hj => by
  have h1 := Nat.ge_two_pow_of_testBit hj
  exact (Nat.pow_lt_pow_iff_right (by omega : 1 < 2)).1 (Nat.lt_of_le_of_lt h1 h)
theorem mod_sub (r V : Nat) : subN (r % 2 ^ V) r = true := subN_iff.2 fun i hi => by
  rw [Nat.testBit_mod_two_pow] at hi; simp at hi; exact hi.2
/-- Events of the cut sets are below the number of events. -/
theorem topK_events {V T : Nat} {f : Fm} (hok : Ok f V T) (hs : synK V T f = true) {p : List Nat × List Nat} (h : topK V T f.nodes = some p) : ∀ r ∈ p.1, r < 2 ^ V := by
  obtain ⟨h1, _, h3⟩ := topK_says hok hs h
  intro r hr
  have hv := (h3 r).1 ⟨r, hr, subN_refl r⟩
  have he : valsK V (r % 2 ^ V) f.nodes = valsK V r f.nodes := valsUp_congr V _ _ f.nodes (fun i hi => by rw [Nat.testBit_mod_two_pow]; simp [hi]) _
  rw [← he] at hv
  obtain ⟨t, ht, hsub⟩ := (h3 _).2 hv
  have htr : t = r := by
    have hr2 := hr
    rw [← h1.1] at hr2
    exact ((mem_minK_iff p.1 r).1 hr2).2 t ht (subN_tr hsub (mod_sub r V))
  subst htr
  have := subN_anti hsub (mod_sub t V)
  rw [this]
  exact Nat.mod_lt _ (Nat.two_pow_pos V)
end Go.Proofs.YthiemjodcklejaaGreatDoor

/-
  The answers of topdown.Cuts alone and of disjoint.Top to a formula that Check accepts.
-/
namespace Go.Proofs.YthiemjodcklejaaGreatDoor
open Go.RowKit

theorem cuts_cases (v : Value) (f : Fm) (V T : Nat) (hok : Ok f V T) (hck : chkF f = 0) (hs : ∃ a n c, v = .slice a n c) :
    (∃ q, ((q = 4 ∧ synK V T f = true ∧ topK V T f.nodes = none) ∨ (q = 7 ∧ synK V T f = false)) ∧ ∀ W, NodesAt W v f.nodes →
      (Calls Tryz.prog 44 #[.agg #[.int .i64 V, v, .int .i64 T]] W fun e w' => e = .returned (.tuple #[.slice none 0 0, errV q]) ∧ Kept W w')) ∨
    (∃ p, topK V T f.nodes = some p ∧ synK V T f = true ∧ ∀ W, NodesAt W v f.nodes →
      (Calls Tryz.prog 44 #[.agg #[.int .i64 V, v, .int .i64 T]] W fun e w' => (∃ v', e = .returned (.tuple #[v', .nilIface]) ∧ IntsAt w' v' (ofN p.1)) ∧ Kept W w')) := by
  have hfm : fmV v f = .agg #[.int .i64 V, v, .int .i64 T] := by unfold fmV; rw [hok.vars, hok.top]
  cases hsy : synK V T f with
  | false =>
    have h7 : ∀ W, NodesAt W v f.nodes → Calls Tryz.prog 98 #[fmV v f] W fun e w' => e = .returned (.tuple #[.slice none 0 0, .slice none 0 0, errV 7]) ∧ Kept W w' := fun W hW => by
      rw [hfm]
      exact run_typed v V T W hs fun W' hk => by
        have := syntax_ok v f V T W' (hW.kept hk) hok hck
        rw [hsy] at this
        exact this
    refine .inl ⟨7, .inr ⟨rfl, rfl⟩, fun W hW => ?_⟩
    have h1 := tcuts_err v f 7 (by omega) W hs (fun W' hk => h7 W' (hW.kept hk))
    rw [hfm] at h1
    exact h1
  | true =>
    cases hl : topK V T f.nodes with
    | none =>
      have h4 : ∀ W, NodesAt W v f.nodes → Calls Tryz.prog 98 #[fmV v f] W fun e w' => e = .returned (.tuple #[.slice none 0 0, .slice none 0 0, errV 4]) ∧ Kept W w' := fun W hW => by
        have := run_ok v f V T W hW hok hck hsy
        rw [hl, ← hfm] at this
        exact this
      refine .inl ⟨4, .inl ⟨rfl, rfl, rfl⟩, fun W hW => ?_⟩
      have h1 := tcuts_err v f 4 (by omega) W hs (fun W' hk => h4 W' (hW.kept hk))
      rw [hfm] at h1
      exact h1
    | some p =>
      obtain ⟨hg, hm, _⟩ := topK_says hok hsy hl
      have h0 : ∀ W, NodesAt W v f.nodes → Calls Tryz.prog 98 #[.agg #[.int .i64 V, v, .int .i64 T]] W fun e w' => RunGood w' e p ∧ Kept W w' := fun W hW => by
        have := run_ok v f V T W hW hok hck hsy
        rw [hl] at this
        exact this
      exact .inr ⟨p, rfl, rfl, fun W hW => (tcuts_ok v V T p W hg hm hs fun W' hk => h0 W' (hW.kept hk)).mono fun _ _ ⟨⟨v', h1, h3⟩, h4⟩ => ⟨⟨v', h1, h3.1.ints⟩, h4⟩⟩
theorem natsI_ofN (l : List Nat) : natsI (ofN l) = l := by
  unfold natsI ofN
  rw [List.map_map]
  exact (List.map_congr_left fun c _ => rfl).trans (List.map_id l)
theorem chkI_good {l : List Nat} (hg : Good l) (hm : ∀ r ∈ l, Mk r) : chkI (ofN l) = 0 := by
  have hs : sortK l = l := (sortK_unique l l (by have h := hg.1; unfold Can at h; rw [← h]; exact pair_minK l) fun _ => Iff.rfl).symm
  have he : errI (ofN l) = 0 := by
    unfold errI
    rw [if_neg (by have := hg.2; simp [ofN]; omega), if_pos (okI_iff.2 fun x hx => by
      unfold ofN at hx
      obtain ⟨n, hn, rfl⟩ := List.mem_map.1 hx
      have := hm n hn
      unfold Mk at this
      show 0 ≤ (n : Int) ∧ (n : Int) ≤ 16777215
      omega)]
  unfold chkI
  rw [if_neg (by omega), natsI_ofN, if_neg (by rw [hs]; simp), if_neg (by have h := hg.1; unfold Can at h; rw [h]; simp)]
/-- What disjoint.Top answers, and what its fraction is. -/
theorem top_one (v pv : Value) (f : Fm) (V T : Nat) (ps : List Rw) (w : World) (hv : NodesAt w v f.nodes) (hok : Ok f V T) (hck : chkF f = 0) (ht : f.top ≤ 9223372036854775807) (hp : RatsAt w pv ps) (hp3 : ∀ r ∈ ps, r.Short 3) (hp30 : ps.length ≤ 30) (hlen : ps.length = V) :
    ∃ (Q : Nat) (R : Rat), ((Q = 4 ∨ Q = 7 ∨ (Q = 3 ∧ badR ps = true)) ∨ (Q = 0 ∧ badR ps = false ∧ ∃ p out, synK V T f = true ∧ topK V T f.nodes = some p ∧ cubesK p.1 = some out ∧ R = sumWs ps out out.length)) ∧ ∀ W, Kept w W →
      Calls Tryz.prog 14 #[.agg #[.int .i64 V, v, .int .i64 T], pv] W fun e w' => (∃ v', e = .returned (.tuple #[v', errV Q]) ∧ RatAt w' v' (canR R)) ∧ Kept W w' := by
  have hs : ∃ a n c, v = .slice a n c := by obtain ⟨a, c, h, _⟩ := hv; exact ⟨a, _, c, h⟩
  have hfm : fmV v f = .agg #[.int .i64 V, v, .int .i64 T] := by unfold fmV; rw [hok.vars, hok.top]
  have hc : ∀ W, Kept w W → Calls Tryz.prog 20 #[.agg #[.int .i64 V, v, .int .i64 T]] W fun e w' => e = .returned .nilIface ∧ Kept W w' := fun W hk => by
    have h := check_any v f W (hv.kept hk) ht
    rw [hck, errV_zero, hfm] at h
    exact h
  have go : ∀ (q0 : Nat) (X : List Int), q0 ≤ 100 → ((cubR X).1 = 0 → ∀ c ∈ (cubR X).2, c.1 < 16777216 ∧ c.2 < 16777216) →
      (∀ W, Kept w W → Calls Tryz.prog 44 #[.agg #[.int .i64 V, v, .int .i64 T]] W fun e w' => (∃ v', e = .returned (.tuple #[v', errV q0]) ∧ IntsAt w' v' X) ∧ Kept W w') →
      ∀ W, Kept w W → Calls Tryz.prog 14 #[.agg #[.int .i64 V, v, .int .i64 T], pv] W fun e w' => (∃ v', e = .returned (.tuple #[v', errV (topR q0 X V ps).1]) ∧ RatAt w' v' (canR (topR q0 X V ps).2)) ∧ Kept W w' := by
    intro q0 X hq hX hA W hk
    exact dtop_any v pv V T q0 X ps W hs hq (fun W' hk' => hc W' (hk.trans hk')) hX (fun W' hk' => hA W' (hk.trans hk')) (hp.kept hk) hp3 hp30
  rcases cuts_cases v f V T hok hck hs with ⟨q, hq, hfc⟩ | ⟨p, hl, hsy, hfc⟩
  · have hq0 : q ≠ 0 ∧ q ≤ 100 := by rcases hq with ⟨rfl, _⟩ | ⟨rfl, _⟩ <;> exact ⟨by omega, by omega⟩
    refine ⟨_, _, .inl ?_, go q [] hq0.2 (fun h c hc => ?_) (fun W hk => (hfc W (hv.kept hk)).mono fun _ w' ⟨h1, h2⟩ => ⟨⟨_, h1, IntsAt.nil w'⟩, h2⟩)⟩
    · unfold topR
      rw [if_neg (by omega)]
      cases hb : badR ps with
      | true => rw [if_pos rfl]; exact .inr (.inr ⟨rfl, rfl⟩)
      | false =>
        rw [if_neg (by simp), if_pos hq0.1]
        rcases hq with ⟨rfl, _⟩ | ⟨rfl, _⟩
        · exact .inl rfl
        · exact .inr (.inl rfl)
    · have h3 := cubes_ok (L := natsI []) (by intro b hb; cases hb) (cubR_some h) c hc
      exact ⟨h3.1, h3.2.1⟩
  · obtain ⟨hg, hm, _⟩ := topK_says hok hsy hl
    have hb24 : ∀ b ∈ p.1, b < 16777216 := fun b hb => by have := hm b hb; unfold Mk at this; omega
    have hck4 : chkI (ofN p.1) = 0 := chkI_good hg hm
    refine ⟨_, _, ?_, go 0 (ofN p.1) (by omega) (fun h c hc => ?_) (fun W hk => by rw [errV_zero]; exact hfc W (hv.kept hk))⟩
    · unfold topR
      rw [if_neg (by omega)]
      cases hb : badR ps with
      | true => rw [if_pos rfl]; exact .inl (.inr (.inr ⟨rfl, rfl⟩))
      | false =>
        rw [if_neg (by simp), if_neg (by simp)]
        by_cases h0 : (cubR (ofN p.1)).1 = 0
        · rw [if_neg (by omega)]
          have h2 := cubR_some h0
          rw [natsI_ofN] at h2
          exact .inr ⟨rfl, rfl, p, _, hsy, hl, h2, rfl⟩
        · rw [if_pos h0]
          refine .inl (.inl ?_)
          unfold cubR at h0 ⊢
          rw [if_neg (by omega)] at h0 ⊢
          cases hcu : cubesK (natsI (ofN p.1)) with
          | none => rfl
          | some l => rw [hcu] at h0; exact absurd rfl h0
    · have h2 := cubR_some h
      rw [natsI_ofN] at h2
      have h3 := cubes_ok hb24 h2 c hc
      exact ⟨h3.1, h3.2.1⟩
end Go.Proofs.YthiemjodcklejaaGreatDoor

/-
  Plain: the sum over the states in which a formula is true is the sum of its disjoint cubes.
-/
namespace Go.Proofs.YthiemjodcklejaaGreatDoor
open Go.RowKit

/-- The sum over the first states that are true. -/
def stS (ps : List Rw) (V T : Nat) (f : Fm) (k : Nat) : Rat := sumTo (fun s => if (valsK V s f.nodes).getD T false = true then stQ (qOf ps) s V else 0) k
theorem stS_true {ps : List Rw} {V T : Nat} {f : Fm} {k : Nat} (h : (valsK V k f.nodes).getD T false = true) : stS ps V T f (k + 1) = stS ps V T f k + stQ (qOf ps) k V := by
  unfold stS; rw [sumTo, if_pos h]
theorem stS_false {ps : List Rw} {V T : Nat} {f : Fm} {k : Nat} (h : (valsK V k f.nodes).getD T false = false) : stS ps V T f (k + 1) = stS ps V T f k := by
  unfold stS; rw [sumTo, if_neg (by rw [h]; simp), Rat.add_zero]
theorem stQ_true {q : Nat → Rat} {s n : Nat} (h : s.testBit n = true) : stQ q s (n + 1) = stQ q s n * q n := by rw [stQ, if_pos h]
theorem stQ_false {q : Nat → Rat} {s n : Nat} (h : s.testBit n = false) : stQ q s (n + 1) = stQ q s n * (1 - q n) := by rw [stQ, if_neg (by rw [h]; simp)]
theorem stQ_short {ps : List Rw} {s : Nat} (hs : ∀ r ∈ ps, r.Short 3) (hok : ∀ r ∈ ps, r.Ok) : ∀ n, n ≤ ps.length → (canR (stQ (qOf ps) s n)).Short (6 * n + 1) := by
  intro n
  induction n with
  | zero => intro _; exact one_short
  | succ n ih =>
    intro hn
    have ih := ih (by omega)
    cases hb : s.testBit n with
    | true =>
      have h := short_mul (canR_ok (stQ (qOf ps) s n)) (qOf_ok hok (k := n) (by omega)) ih (qOf_short hs (k := n) (by omega)) (by omega) (by omega)
      rw [ratOf_can] at h
      rw [stQ_true hb]
      exact ⟨Nat.le_trans h.1 (by omega), Nat.le_trans h.2 (by omega)⟩
    | false =>
      have h := short_mul (canR_ok (stQ (qOf ps) s n)) (canR_ok (1 - qOf ps n)) ih (not_short hs hok (k := n) (by omega)) (by omega) (by omega)
      rw [ratOf_can, ratOf_can] at h
      rw [stQ_false hb]
      exact ⟨Nat.le_trans h.1 (by omega), Nat.le_trans h.2 (by omega)⟩
theorem stS_short {ps : List Rw} {V T : Nat} {f : Fm} (hV : V = ps.length) (h6 : V ≤ 6) (hs : ∀ r ∈ ps, r.Short 3) (hok : ∀ r ∈ ps, r.Ok) : ∀ k, (canR (stS ps V T f k)).Short (38 * k + 1) := by
  intro k
  induction k with
  | zero => exact ⟨Nat.zero_le _, Nat.zero_le _⟩
  | succ k ih =>
    cases hb : (valsK V k f.nodes).getD T false with
    | true =>
      have hq := stQ_short (s := k) hs hok V (by omega)
      have h := short_add (canR_ok (stS ps V T f k)) (canR_ok (stQ (qOf ps) k V)) ih hq (by omega) (by omega)
      rw [ratOf_can, ratOf_can, ← stS_true hb] at h
      exact ⟨Nat.le_trans h.1 (by omega), Nat.le_trans h.2 (by omega)⟩
    | false =>
      rw [stS_false hb]
      exact ⟨Nat.le_trans ih.1 (by omega), Nat.le_trans ih.2 (by omega)⟩
theorem cov_up (l : List Nat) (s : Nat) : covB l s = true ↔ up l s := by
  unfold covB up
  rw [List.any_eq_true]
theorem exact_eq {ps : List Rw} {f : Fm} {V T : Nat} {p : List Nat × List Nat} {out : List (Nat × Nat)} (hok : Ok f V T) (hs : synK V T f = true) (hl : topK V T f.nodes = some p) (hc : cubesK p.1 = some out) (hV : ps.length = V) (hpo : ∀ r ∈ ps, r.Ok) (hbad : badR ps = false) :
    sumWs ps out out.length = stS ps V T f (2 ^ V) ∧ probR (canR (sumWs ps out out.length)) = true := by
  obtain ⟨_, hm, hup⟩ := topK_says hok hs hl
  have hb24 : ∀ b ∈ p.1, b < 16777216 := fun b hb => by have := hm b hb; unfold Mk at this; omega
  have hbV := topK_events hok hs hl
  have hbits := cubes_all (Pr := BitsV V) (fun b hb c hc d hd => less_bits (pow_bits (hbV b hb)) hc d hd) (fun b hb => ⟨pow_bits (hbV b hb), fun j hj => by simp at hj⟩) hc
  have hok3 := cubes_ok hb24 hc
  have hcond : ∀ c ∈ out, c.1 &&& c.2 = 0 ∧ (∀ i, c.1.testBit i = true → i < ps.length) ∧ ∀ i, c.2.testBit i = true → i < ps.length := fun c hc => ⟨(hok3 c hc).2.2, by rw [hV]; exact (hbits c hc).1, by rw [hV]; exact (hbits c hc).2⟩
  have hcnt := fun s => cnt_cubes hb24 hc s
  have e : sumWs ps out out.length = sumW (qOf ps) ps.length out := by unfold sumWs; rw [List.take_length]
  have hu := sumW_unit (q := qOf ps) (n := ps.length) hcond (qOf_unit hpo hbad) (fun s => by rw [hcnt]; split <;> omega)
  refine ⟨?_, by rw [e]; exact prob_can hu.1 hu.2⟩
  rw [e, sumW_cnt hcond, EX_sum, hV]
  unfold stS
  refine sumTo_congr fun s _ => ?_
  rw [hcnt]
  by_cases h : covB p.1 s = true
  · rw [if_pos h, if_pos ((hup s).1 ((cov_up _ _).1 h))]
    exact Rat.one_mul _
  · rw [if_neg h, if_neg (fun h2 => h ((cov_up _ _).2 ((hup s).2 h2)))]
    exact Rat.zero_mul _
end Go.Proofs.YthiemjodcklejaaGreatDoor

/-
  Plain: inclusion and exclusion, the alternating sums of Bonferroni.
-/
namespace Go.Proofs.YthiemjodcklejaaGreatDoor
open Go.RowKit

/-- The number of choices of k of n things. -/
def chs : Nat → Nat → Nat
  | _, 0 => 1
  | 0, _ + 1 => 0
  | n + 1, k + 1 => chs n k + chs n (k + 1)
/-- The probability of a set. -/
def pQ (q : Nat → Rat) (n c : Nat) : Rat := wQ q (c, 0) n
/-- The sum over the choices of k sets, with what has been chosen already. -/
def incQ (q : Nat → Rat) (n : Nat) : List Nat → Nat → Nat → Rat
  | _, 0, c => pQ q n c
  | [], _ + 1, _ => 0
  | s :: l, k + 1, c => incQ q n l k (c ||| s) + incQ q n l (k + 1) c
/-- The union of the chosen sets; the sums by choices. -/
def uniK (l : List Nat) (ch : Nat) : Nat → Nat
  | 0 => 0
  | n + 1 => if ch.testBit n = true then uniK l ch n ||| l.getD n 0 else uniK l ch n
def sumCh (q : Nat → Rat) (n : Nat) (l : List Nat) (k m : Nat) : Rat := sumTo (fun ch => if pc ch = k then pQ q n (uniK l ch l.length) else 0) m
/-- How many sets of a list a state contains. -/
def cntS (l : List Nat) (s : Nat) : Nat := (l.filter fun t => subN t s).length
/-- The alternating sums. -/
def altN (N : Nat) : Nat → Rat
  | 0 => 0
  | k + 1 => if (k + 1) % 2 = 1 then altN N k + ((chs N (k + 1) : Nat) : Rat) else altN N k - ((chs N (k + 1) : Nat) : Rat)
def altQ (q : Nat → Rat) (n : Nat) (l : List Nat) : Nat → Rat
  | 0 => 0
  | k + 1 => if (k + 1) % 2 = 1 then altQ q n l k + incQ q n l (k + 1) 0 else altQ q n l k - incQ q n l (k + 1) 0
end Go.Proofs.YthiemjodcklejaaGreatDoor

/-
  Plain: the bounds of Bonferroni.
-/
namespace Go.Proofs.YthiemjodcklejaaGreatDoor

/-- The greater, the lesser number. -/
def maxQ (a b : Rat) : Rat := if b ≤ a then a else b
def minQ (a b : Rat) : Rat := if a ≤ b then a else b
/-- The bounds of Bonferroni. -/
def bndLo (q : Nat → Rat) (n : Nat) (l : List Nat) : Nat → Rat
  | 0 => 0
  | k + 1 => if (k + 1) % 2 = 0 then maxQ (bndLo q n l k) (altQ q n l (k + 1)) else bndLo q n l k
def bndHi (q : Nat → Rat) (n : Nat) (l : List Nat) : Nat → Rat
  | 0 => 1
  | k + 1 => if (k + 1) % 2 = 0 then bndHi q n l k else minQ (bndHi q n l k) (altQ q n l (k + 1))
end Go.Proofs.YthiemjodcklejaaGreatDoor

/-
  Walk: truncate.Left. Printed by gen_A51.py.
-/
namespace Go.Proofs.YthiemjodcklejaaGreatDoor
open Go.RowKit

/-- The sum of the first products. -/
def sumQ (ss : List Nat) (ps : List Rw) : Nat → Rat
  | 0 => 0
  | k + 1 => sumQ ss ps k + prodQ (ss.getD k 0) ps ps.length
/-- What Left answers: the error's number, the sum. -/
def leftQ (xs ys : List Int) (ps : List Rw) : Nat × Rat :=
  if chkI xs ≠ 0 then (chkI xs, 0) else if chkI ys ≠ 0 then (chkI ys, 0) else if (natsI ys).any (fun s => decide ((ps.length : Int) ≤ gtK s)) = true then (11, 0) else if badR ps = true then (3, 0) else (0, sumQ (natsI ys) ps (natsI ys).length)
end Go.Proofs.YthiemjodcklejaaGreatDoor

/-
  Rows of the call's own in whose blocks no word lies; slices of fractions of the call's own.
-/
namespace Go.Proofs.YthiemjodcklejaaGreatDoor
open Go.RowKit

/-- A cell that is no word. -/
def NotW (u : Value) : Prop := ∀ x, u ≠ .int .u32 x
/-- No cell of block g is a word. -/
def NoW (w : World) (g : Nat) : Prop := ∀ cur e fr, w.heap[g]? = some (.cells cur e fr) → ∀ u ∈ cur.toList, NotW u
/-- A fraction with the slices of its words. -/
abbrev RwV := Rw × Value × Value
def rwC (x : RwV) : List Value := [.bool x.1.neg, x.2.1, x.2.2]
def RwOk (w : World) (x : RwV) : Prop := WdsAt w x.2.1 x.1.num ∧ WdsAt w x.2.2 x.1.den
/-- Fractions of the call's own, in a slice. -/
def OwnRats (w : World) (B : Nat) (v : Value) (rs : List Rw) : Prop :=
  ∃ L : List RwV, L.map Prod.fst = rs ∧ w.ownsRow B 31 3 v L.length (L.flatMap rwC) ∧ L.length ≤ 1099511627776 ∧ (∀ g, v.ownBlock = some g → NoW w g) ∧ ∀ x ∈ L, RwOk w x
end Go.Proofs.YthiemjodcklejaaGreatDoor

/-
  Plain: the sums of inclusion and exclusion over fractions; how long they become; a slice of fractions in one block.
-/
namespace Go.Proofs.YthiemjodcklejaaGreatDoor
open Go.RowKit

/-- The number of the error. -/
def incE (xs : List Int) (ps : List Rw) (k : Int) : Nat :=
  if chkI xs ≠ 0 then chkI xs else if 12 < xs.length then 4 else if (natsI xs).any (fun s => decide ((ps.length : Int) ≤ gtK s)) = true then 11 else if badR ps = true then 3 else if k < 0 ∨ 12 < k then 3 else 0
/-- The sum of the choices below m that choose k sets. -/
def sumR (ps : List Rw) (l : List Nat) (k m : Nat) : Rat := sumCh (qOf ps) ps.length l k m
/-- The sum over the choices of k sets. -/
def incR (ps : List Rw) (l : List Nat) (k : Nat) : Rat := incQ (qOf ps) ps.length l k 0
/-- With what has been chosen already. -/
def incC (ps : List Rw) (l : List Nat) (k c : Nat) : Rat := incQ (qOf ps) ps.length l k c
/-- The alternating sum. -/
def altR (ps : List Rw) (l : List Nat) (k : Nat) : Rat := altQ (qOf ps) ps.length l k
/-- The bounds. -/
def loR (ps : List Rw) (l : List Nat) (k : Nat) : Rat := bndLo (qOf ps) ps.length l k
def hiR (ps : List Rw) (l : List Nat) (k : Nat) : Rat := bndHi (qOf ps) ps.length l k
/-- Fractions in one block of these cells alone. -/
def ArrAt (w : World) (g : Nat) (e : TypeId) (rs : List Rw) : Prop :=
  ∃ L : List RwV, L.map Prod.fst = rs ∧ RowAt w g e (L.flatMap rwC) ∧ FixAt w g (L.flatMap rwC) ∧ ∀ x ∈ L, RwOk w x
end Go.Proofs.YthiemjodcklejaaGreatDoor

/-
  Spans: a value, a variable's cells, a result's cells.
-/
namespace Go.Proofs.YthiemjodcklejaaGreatDoor
open Go.RowKit

/-- A span as a value. -/
def SpanV (w : World) (v : Value) (lo hi : Rw) : Prop :=
  ∃ u1 u2 u3 u4, v = .agg #[.bool lo.neg, u1, u2, .bool hi.neg, u3, u4] ∧ WdsAt w u1 lo.num ∧ WdsAt w u2 lo.den ∧ WdsAt w u3 hi.num ∧ WdsAt w u4 hi.den
/-- A variable that holds a span. -/
def SpnAt (w : World) (g : Nat) (lo hi : Rw) : Prop := ArrAt w g 58 [lo, hi]
end Go.Proofs.YthiemjodcklejaaGreatDoor

/-
  Fractions and spans in boxes: what is laid, what is read again, what is stored.
-/
namespace Go.Proofs.YthiemjodcklejaaGreatDoor
open Go.RowKit

theorem RatCell.zero (w : World) : RatCell (w.alloc (.cells #[.bool false, .slice none 0 0, .slice none 0 0] 31)) w.heap.size ⟨false, [], []⟩ :=
  RatCell.made (r := ⟨false, [], []⟩) (WdsAt.nil w) (WdsAt.nil w)
theorem RatAt.parts {w : World} {v : Value} {r : Rw} (h : RatAt w v r) : ∃ n l m a1 c1 a2 c2, v = .agg #[.bool n, .slice a1 l c1, .slice a2 m c2] := by
  obtain ⟨u1, u2, rfl, h1, h2⟩ := h
  obtain ⟨a1, c1, rfl⟩ := h1.shape
  obtain ⟨a2, c2, rfl⟩ := h2.shape
  exact ⟨_, _, _, _, _, _, _, rfl⟩
/-- A fraction that is returned, and the block in which it is laid. -/
theorem RatAt.box {w : World} {v : Value} {r : Rw} (h : RatAt w v r) : ∃ n l m a1 c1 a2 c2 w', v = .agg #[.bool n, .slice a1 l c1, .slice a2 m c2] ∧ w' = w.alloc (.cells #[.bool n, .slice a1 l c1, .slice a2 m c2] 31) ∧
    RatCell w' w.heap.size r ∧ Kept w w' ∧ RatAt w' (.agg #[.bool n, .slice a1 l c1, .slice a2 m c2]) r ∧ w'.heap.size = w.heap.size + 1 := by
  obtain ⟨u1, u2, rfl, h1, h2⟩ := h
  obtain ⟨a1, c1, rfl⟩ := h1.shape
  obtain ⟨a2, c2, rfl⟩ := h2.shape
  exact ⟨_, _, _, _, _, _, _, _, rfl, rfl, RatCell.made h1 h2, (Kept.refl _).alloc _, ⟨_, _, rfl, h1.kept ((Kept.refl _).alloc _), h2.kept ((Kept.refl _).alloc _)⟩, by simp⟩
/-- A fraction that is read again. -/
theorem RatCell.read {w : World} {g : Nat} {r : Rw} (h : RatCell w g r) : ∃ n l m a1 c1 a2 c2, w.cell? ⟨g, 0, none⟩ = some (.bool n) ∧ w.cell? ⟨g, 1, none⟩ = some (.slice a1 l c1) ∧ w.cell? ⟨g, 2, none⟩ = some (.slice a2 m c2) ∧ g < w.heap.size ∧
    Hid (RatAt w (.agg #[.bool n, .slice a1 l c1, .slice a2 m c2]) r) := by
  obtain ⟨a1, c1, a2, c2, ⟨x0, x1, x2⟩, _, hl, hx⟩ := h.at
  exact ⟨_, _, _, _, _, _, _, x0, x1, x2, hl, Lib.hid hx⟩
/-- A fraction that is stored into a variable of the call's own. -/
theorem RatCell.save {w : World} {g : Nat} {v : Value} {r0 r : Rw} (h : RatCell w g r0) (hv : RatAt w v r) : ∃ n l m a1 c1 a2 c2 w', v = .agg #[.bool n, .slice a1 l c1, .slice a2 m c2] ∧
    w' = ((w.setCell ⟨g, 0, none⟩ (.bool n)).setCell ⟨g, 1, none⟩ (.slice a1 l c1)).setCell ⟨g, 2, none⟩ (.slice a2 m c2) ∧
    ((∃ z, w.cell? ⟨g, 0, none⟩ = some z) ∧ (∃ z, w.cell? ⟨g, 1, none⟩ = some z) ∧ (∃ z, w.cell? ⟨g, 2, none⟩ = some z)) ∧
    (w.frozen? ⟨g, 0, none⟩ = false ∧ w.frozen? ⟨g, 1, none⟩ = false ∧ w.frozen? ⟨g, 2, none⟩ = false) ∧ g < w.heap.size ∧
    Hid (w'.cell? ⟨g, 0, none⟩ = some (.bool n) ∧ w'.cell? ⟨g, 1, none⟩ = some (.slice a1 l c1) ∧ w'.cell? ⟨g, 2, none⟩ = some (.slice a2 m c2)) ∧
    Hid (RatAt w' (.agg #[.bool n, .slice a1 l c1, .slice a2 m c2]) r) ∧ Hid (RatCell w' g r) ∧ Hid (∀ W, Kept W w → W.heap.size ≤ g → Kept W w') := by
  obtain ⟨u1, u2, rfl, h1, h2⟩ := hv
  obtain ⟨a1, c1, rfl⟩ := h1.shape
  obtain ⟨a2, c2, rfl⟩ := h2.shape
  obtain ⟨_, _, _, _, ⟨x0, x1, x2⟩, hf, hl, _⟩ := h.at
  have hs := h.store h1 h2
  obtain ⟨w', hw'⟩ : ∃ w', w' = ((w.setCell ⟨g, 0, none⟩ (.bool r.neg)).setCell ⟨g, 1, none⟩ (.slice a1 r.num.length c1)).setCell ⟨g, 2, none⟩ (.slice a2 r.den.length c2) := ⟨_, rfl⟩
  rw [← hw'] at hs
  refine ⟨_, _, _, _, _, _, _, w', rfl, hw', ⟨⟨_, x0⟩, ⟨_, x1⟩, ⟨_, x2⟩⟩, hf, hl, Lib.hid ?_, Lib.hid ?_, Lib.hid hs, Lib.hid fun W hk hg => ?_⟩
  · obtain ⟨_, _, _, _, hr, _⟩ := h
    have hr2 := ((hr.store 0 (.bool r.neg)).store 1 (.slice a1 r.num.length c1)).store 2 (.slice a2 r.den.length c2)
    rw [hw']
    have c := fun i (hi : i < 3) => hr2.cell (i := i) (by simpa using hi)
    exact ⟨c 0 (by omega), c 1 (by omega), c 2 (by omega)⟩
  · obtain ⟨a3, c3, a4, c4, _, hfx, _, _⟩ := h
    rw [hw']
    have hO := (((OnlyAt.refl g w).store 0 (.bool r.neg)).store 1 (.slice a1 r.num.length c1)).store 2 (.slice a2 r.den.length c2)
    have hn : ∀ k x, Value.int k x ∉ [Value.bool r0.neg, .slice a3 r0.num.length c3, .slice a4 r0.den.length c4] := fun k x hx => by simp at hx
    exact ⟨_, _, rfl, h1.apart hfx hn hO, h2.apart hfx hn hO⟩
  · rw [hw']
    exact ((hk.store hg _ _).store hg _ _).store hg _ _
end Go.Proofs.YthiemjodcklejaaGreatDoor
