import Derived.WalkKit
import Derived.WalkSpells
import Derived.WalkLawsBesides
import Derived.Deep.QuietTactic
import Derived.BigQuiet
import Derived.Lib.Hide
import Derived.Shelf.Abstract
import Derived.Deep.RegionWith
import Derived.Laws.AppendOwnNone
import Derived.Lib.AppendZerosOnto
import Derived.Lib.SliceRun
import Derived.Lib.SlicesCompact
import Derived.Shelf.SlSortCmp.NoneTotal
import Derived.Maps.OwnOps
import Derived.Maps.OwnSet
import Derived.Maps.Views
import Derived.Deep.MidRow
import Derived.Deep.RegionHeld3
import Derived.Deep.AppendLies
import Derived.Deep.RegionLaw
import Derived.IntWalk
import Derived.StillTailTactics
import Derived.ProofKit
import Derived.OpenShut
import Derived.SizedLaws
import Derived.Lib.SmallJoins
import Derived.Deep.Slices
import Derived.Deep.Fields
import Derived.Deep.Strs
import Derived.Carry
import Derived.BigRegion
import Derived.ChangeAlike
import Derived.Deep.DeepCutAuto
import Derived.Deep.LoopGhost
import Derived.Lib.ItoaNum
import Derived.RegionTactic
import Derived.Shelf.SlSortCmp.PdqK
import Derived.Sort.LotA
import Derived.Sort.LotD2
import Derived.Lib.BitFns
import Derived.Deep.CutBlock
import Derived.Test.YtbkchheikkbebaaGreatDoorDD7
import Derived.Test.YtbkchheikkbebaaGreatDoorDD6
import Derived.Test.YtbkchheikkbebaaGreatDoorDD1
import Derived.Test.YtbkchheikkbebaaGreatDoorShelf
import Derived.Laws.IdiomStrings
import Derived.Test.YtbkchheikkbebaaGreatDoorDD2
import Derived.Test.YtbkchheikkbebaaGreatDoorDD4
/-
  Walks: disjoint.without, Cubes.
-/
namespace Go.Proofs.YtbkchheikkbebaaGreatDoor
open Go.RowKit

theorem lessK_len (c : Nat × Nat) (s : Nat) : (lessK c s).length ≤ 24 := by
  unfold lessK
  split
  · simp
  · rw [lessL_len]; exact elems_len _ 24
theorem withK_snoc (l : List (Nat × Nat)) (c : Nat × Nat) (s : Nat) : withK (l ++ [c]) s = withK l s ++ lessK c s := by unfold withK; rw [List.flatMap_append]; simp
theorem withK_len (s : Nat) : ∀ l : List (Nat × Nat), (withK l s).length ≤ 24 * l.length := by
  intro l
  induction l with
  | nil => simp [withK]
  | cons c l ih =>
    have e : withK (c :: l) s = lessK c s ++ withK l s := by simp [withK]
    rw [e, List.length_append, List.length_cons]
    have := lessK_len c s
    omega
theorem ofCs_get {l : List (Nat × Nat)} {i : Nat} (h : i < (ofCs l).length) : (ofCs l)[i] = ofC (l[i]'(by rw [ofCs_len] at h; exact h)) := by simp [ofCs]
/-- The cells of a cube of a list. -/
theorem CbsAt.cells {w : World} {a : Option Addr} {n c : Nat} {l : List (Nat × Nat)} (h : CbsAt w (.slice a n c) (ofCs l)) (i : Nat) (hi : i < l.length) :
    ∃ b o, a = some ⟨b, o, none⟩ ∧ w.rangeAt b (o + i * 2) [.int .i64 (l[i].1 : Nat), .int .i64 (l[i].2 : Nat)] := by
  obtain ⟨a', c', h1, _, _, h5⟩ := h
  injection h1 with h1
  subst h1
  obtain ⟨b, o, h6, h7⟩ := h5 i (by rw [ofCs_len]; exact hi)
  refine ⟨b, o, h6, ?_⟩
  rw [ofCs_get] at h7
  exact h7
set_option maxRecDepth 100000 in
set_option maxHeartbeats 4000000 in
theorem without_any (va : Value) (l : List (Nat × Nat)) (s most : Nat) (w : World) (hv : CbsAt w va (ofCs l)) (hl : l.length ≤ 1024) (hb : ∀ c ∈ l, c.1 < 16777216 ∧ c.2 < 16777216) (hs : s < 16777216) (_hm : most ≤ 1024) :
    Calls Tryz.prog 84 #[va, .int .i64 s, .int .i64 most] w fun e w' => ((most < (withK l s).length ∧ e = .returned (.tuple #[.slice none 0 0, errV 4])) ∨ (¬ most < (withK l s).length ∧ ∃ v, e = .returned (.tuple #[v, .nilIface]) ∧ CbsAt w' v (ofCs (withK l s)))) ∧ Kept w w' := by
  have HLE := Lib.hid fun (c : Nat × Nat) W (h : c.1 < 16777216 ∧ c.2 < 16777216) => less_any c.1 c.2 s h.1 h.2 hs W
  have HV := Lib.hid hv
  have HB := Lib.hid hb
  obtain ⟨a, c, rfl⟩ := hv.shape
  rw [ofCs_len] at HV ⊢
  obtain ⟨n, hn⟩ : ∃ n, n = l.length := ⟨_, rfl⟩
  rw [← hn] at HV hl ⊢
  have HN := Lib.hid hn
  have HWL := Lib.hid fun k => withK_len s (l.take k)
  obtain ⟨z, hz⟩ : ∃ z, z = (withK l s).length := ⟨_, rfl⟩
  rw [← hz]
  have HZ := Lib.hid hz
  clear hv hb hn hs hz
  go_enter Tryz.func84, Tryz.ntmps84
  go_wp2_with fail
  go_loopg [8, 13] n (fun kx s8 s13 wr => ∃ k : Nat, k ≤ n ∧ s13 = .int .i64 k ∧ n - k ≤ kx ∧ Hid (OwnCbs wr w.heap.size s8 (ofCs (withK (l.take k) s))) ∧ Hid (Kept w wr))
  case atStart => exact ⟨0, Nat.zero_le _, rfl, by omega, Lib.hid (OwnCbs.nil _ _), Lib.hid (Kept.refl _)⟩
  case round =>
    obtain ⟨k, hk, rfl, hkx, HO, HK⟩ := hrel
    obtain ⟨a8, c8, e8⟩ := HO.out.at.shape
    rw [ofCs_len] at e8
    by_cases hlt : k < n
    · have hkn : (k : Int) < (n : Int) := by omega
      have hkl : k < l.length := by have := HN.out; omega
      obtain ⟨b, o, rfl, hrg⟩ := HV.out.cells k hkl
      have hrg2 := rangeC_kept hrg HK.out
      have y0 := hrg2 0 _ rfl
      have y1 := hrg2 1 _ rfl
      rw [Nat.add_zero] at y0
      have HLC := Lib.hid fun W => HLE.out l[k] W (HB.out _ (List.getElem_mem hkl))
      have HST : Hid (withK (l.take (k + 1)) s = withK (l.take k) s ++ lessK l[k] s) := Lib.hid (by rw [List.take_succ_eq_append_getElem hkl, withK_snoc])
      have HLL : Hid ((withK (l.take k) s).length + (lessK l[k] s).length ≤ 1099511627776) := Lib.hid (by
        have h1 := HWL.out k
        have h2 := lessK_len l[k] s
        have h3 : (l.take k).length ≤ k := by rw [List.length_take]; omega
        omega)
      obtain ⟨z0, hz0⟩ : ∃ z0, z0 = l[k].1 := ⟨_, rfl⟩
      obtain ⟨z1, hz1⟩ : ∃ z1, z1 = l[k].2 := ⟨_, rfl⟩
      obtain ⟨M, hM⟩ : ∃ M, M = lessK l[k] s := ⟨_, rfl⟩
      have e : (l[k].1, l[k].2) = l[k] := rfl
      rw [e, ← hM] at HLC
      rw [← hz0, ← hz1] at HLC
      rw [← hM] at HST HLL
      rw [← hz0] at y0
      rw [← hz1] at y1
      subst e8
      clear hrg hrg2 hz0 hz1 hM e hkl
      go_wp2_with (first
        | (go_at_call 160; refine (HLC.out _).mono ?_; rintro e w2 ⟨⟨v2, rfl, hv2⟩, hk2⟩; have HV2 := Lib.hid hv2; have HK2 := Lib.hid (((Kept.refl wr).alloc _).trans hk2); clear hv2 hk2)
        | (at_builtin; refine app_cbs rfl _ _ rfl w.heap.size _ (ofCs (withK (l.take k) s)) rfl (HO.out.kept HK2.out) _ (ofCs M) rfl HV2.out (by rw [ofCs_len, ofCs_len]; exact HLL.out) (Nat.le_trans HK.out.size HK2.out.size) ?_; intro v' w' h5 _ h6; have H5 := Lib.hid h5; have H6 := Lib.hid h6; clear h5 h6))
      obtain ⟨a5, c5, rfl⟩ := H5.out.at.shape
      go_roundg (n - (k + 1))
      case measure => omega
      case rel => exact ⟨k + 1, by omega, by go_num, Nat.le_refl _, Lib.hid (by rw [HST.out, ofCs_app]; exact H5.out), Lib.hid ((HK.out.trans HK2.out).app H6.out)⟩
    · have hke : k = n := by omega
      have hkn : ¬ (k : Int) < (n : Int) := by omega
      have ht : l.take k = l := by rw [hke, HN.out]; exact List.take_length
      rw [ht] at HO e8
      rw [← HZ.out] at e8
      clear ht hke
      subst e8
      by_cases hmz : most < z
      · have hmi : (most : Int) < (z : Int) := by omega
        go_wp2
        go_ret2
        exact ⟨by rw [errV_pos (by omega)]; rfl, HK.out⟩
      · have hmi : ¬ (most : Int) < (z : Int) := by omega
        go_wp2
        go_ret2
        exact ⟨⟨_, rfl, HO.out.at⟩, HK.out⟩
theorem chkI_ok {xs : List Int} (h : chkI xs = 0) : xs.length ≤ 1024 ∧ okI xs = true := by
  unfold chkI at h
  by_cases he : errI xs = 0
  · exact err_ok he
  · rw [if_pos he] at h; exact absurd h he
/-- What Cubes answers. -/
def cubR (xs : List Int) : Nat × List (Nat × Nat) := if chkI xs ≠ 0 then (chkI xs, []) else match cubesK (natsI xs) with | none => (4, []) | some l => (0, l)
theorem ownC_step (most : Nat) (L : List Nat) (l : List (Nat × Nat)) (j : Nat) (hj : j < L.length) : ownC most (L.drop j) l = if most < (withK l L[j]).length then none else ownC most (L.drop (j + 1)) (withK l L[j]) := by
  rw [List.drop_eq_getElem_cons hj, ownC]
theorem cubesC_step (pre : List Nat) (out : List (Nat × Nat)) (L : List Nat) (k : Nat) (hk : k < L.length) : cubesC pre out (L.drop k) = match ownC (1024 - out.length) pre [(L[k], 0)] with | none => none | some l => cubesC (pre ++ [L[k]]) (out ++ l) (L.drop (k + 1)) := by
  rw [List.drop_eq_getElem_cons hk, cubesC]
  cases ownC (1024 - out.length) pre [(L[k], 0)] <;> rfl
theorem own_fits {most ol s : Nat} {bs : List Nat} {l : List (Nat × Nat)} (h : ownC most bs [(s, 0)] = some l) (hm : most = 1024 - ol) (ho : ol ≤ 1024) (h0 : bs = [] → ol = 0) : ol + l.length ≤ 1024 := by
  by_cases hb : bs = []
  · subst hb
    cases h
    have := h0 rfl
    simp; omega
  · have := own_le h hb
    omega
theorem less_lt {b : Nat} {c : Nat × Nat} (hc : c.1 < 16777216 ∧ c.2 < 16777216) : ∀ d ∈ lessK c b, d.1 < 16777216 ∧ d.2 < 16777216 := by
  intro d hd
  unfold lessK at hd
  split at hd
  · rw [List.mem_singleton] at hd; rw [hd]; exact hc
  · refine lessL_all (Pr := fun d => d.1 < 16777216 ∧ d.2 < 16777216) (elems_nodup _) (fun i hi => ?_) ?_ d hd
    · have := (elems_lt hi).2
      rw [sdiff_bit, Bool.and_eq_true] at this
      simpa using this.2
    · intro y' i hi h4 _ _
      refine ⟨lt_24 fun j hj => ?_, lt_24 fun j hj => ?_⟩
      · rcases h4 j hj with h | h
        · exact bit_24 hc.1 h
        · exact (elems_lt h).1
      · replace hj : (c.2 ||| 2 ^ i).testBit j = true := hj
        rw [Nat.testBit_or, Nat.testBit_two_pow, Bool.or_eq_true, decide_eq_true_eq] at hj
        rcases hj with h | rfl
        · exact bit_24 hc.2 h
        · exact (elems_lt hi).1
theorem with_lt {b : Nat} {l : List (Nat × Nat)} (hl : ∀ c ∈ l, c.1 < 16777216 ∧ c.2 < 16777216) : ∀ d ∈ withK l b, d.1 < 16777216 ∧ d.2 < 16777216 := by
  intro d hd
  obtain ⟨c, hc, hd⟩ := List.mem_flatMap.1 hd
  exact less_lt (hl c hc) d hd
set_option maxRecDepth 100000 in
set_option maxHeartbeats 8000000 in
theorem cubes_any (va : Value) (xs : List Int) (w : World) (hv : IntsAt w va xs) :
    Calls Tryz.prog 23 #[va] w fun e w' => (∃ v', e = .returned (.tuple #[v', errV (cubR xs).1]) ∧ CbsAt w' v' (ofCs (cubR xs).2)) ∧ Kept w w' := by
  have HC := Lib.hid fun W (h : Kept w W) => fcheck_any va xs W (hv.kept h)
  obtain ⟨a, m, c, rfl⟩ := hv.shape
  by_cases h0 : chkI xs = 0
  · obtain ⟨hlen, hok⟩ := chkI_ok h0
    obtain ⟨hxs, hmk⟩ := nats_of hok
    have hcr : cubR xs = match cubesK (natsI xs) with | none => (4, []) | some l => (0, l) := by unfold cubR; rw [if_neg (by omega)]
    obtain ⟨q, hq⟩ : ∃ q, q = (cubR xs).1 := ⟨_, rfl⟩
    obtain ⟨Lr, hLr⟩ : ∃ Lr, Lr = (cubR xs).2 := ⟨_, rfl⟩
    rw [← hq, ← hLr]
    rw [hcr] at hq hLr
    rw [h0, errV_zero] at HC
    obtain ⟨ns, hns⟩ : ∃ ns, ns = natsI xs := ⟨_, rfl⟩
    rw [← hns] at hxs hmk hq hLr
    have hnl : ns.length ≤ 1024 := by rw [hns]; unfold natsI; rw [List.length_map]; exact hlen
    have hml : m = ns.length := by
      obtain ⟨a', c', he, _⟩ := hv
      injection he with _ he _
      rw [he, hns]; unfold natsI; rw [List.length_map]
    have HS : Hid (IntsAt w (.slice a m c) (ofN ns)) := Lib.hid (by rw [← hxs]; exact hv)
    have HMK : Hid (∀ s ∈ ns, s < 16777216) := Lib.hid fun s hs => by have := hmk s hs; unfold Mk at this; omega
    have HML := Lib.hid hml
    have HWI := Lib.hid fun va l s most W hv hl hb hs hm => without_any va l s most W hv hl hb hs hm
    obtain ⟨R, hR⟩ : ∃ R, R = cubesK ns := ⟨_, rfl⟩
    rw [← hR] at hq hLr
    have HR := Lib.hid hR
    have HQS : Hid (∀ o, R = some o → q = 0 ∧ Lr = o) := Lib.hid fun o h => by rw [h] at hq hLr; exact ⟨hq, hLr⟩
    have HQN : Hid (R = none → q = 4 ∧ Lr = []) := Lib.hid fun h => by rw [h] at hq hLr; exact ⟨hq, hLr⟩
    have hm9 : m ≤ 1024 := by omega
    clear hv hxs hmk hnl hml hR hns hcr h0 hlen hok hq hLr
    go_enter Tryz.func23, Tryz.ntmps23
    go_wp2_with fail
    refine (HC.out _ (Kept.refl _)).mono ?_
    rintro e w2 ⟨rfl, hk2⟩
    have HK2 := Lib.hid hk2
    clear hk2
    go_wp2_with fail
    go_loopg [5, 21] m (fun kx s5 s21 wr => ∃ (k : Nat) (out : List (Nat × Nat)), k ≤ m ∧ s21 = .int .i64 k ∧ m - k ≤ kx ∧ out.length ≤ 1024 ∧ Hid (OwnCbs wr w2.heap.size s5 (ofCs out)) ∧ Hid (cubesC (ns.take k) out (ns.drop k) = R) ∧ Hid (ns.take k = [] → out = []) ∧ Hid (Kept w2 wr))
    case atStart => exact ⟨0, [], Nat.zero_le _, rfl, by omega, by simp, Lib.hid (OwnCbs.nil _ _), Lib.hid (by rw [HR.out]; simp [cubesK]), Lib.hid (fun _ => rfl), Lib.hid (Kept.refl _)⟩
    case round =>
      obtain ⟨k, out, hk, rfl, hkx, hol, HO, HCC, HE0, HK⟩ := hrel
      obtain ⟨a5, c5, e5⟩ := HO.out.at.shape
      rw [ofCs_len] at e5
      by_cases hlt : k < m
      · have hkl : k < ns.length := by have := HML.out; omega
        have hkn : (k : Int) < (m : Int) := by omega
        obtain ⟨fa', fc', he1, ⟨he6, _⟩, _, he2⟩ := HS.out
        injection he1 with he3 he4 he5
        subst he3
        have hkc : k ≤ c := by rw [he5]; omega
        have hkc1 : ¬ (c : Int) < (k : Int) := by omega
        have hkc2 : (k : Int) ≤ (c : Int) := by omega
        obtain ⟨b, o, rfl, hce⟩ := he2 k (by simpa [ofN] using hkl)
        obtain ⟨s, hs⟩ : ∃ s, s = ns[k] := ⟨_, rfl⟩
        have e1 : (ofN ns)[k]'(by simpa [ofN] using hkl) = (s : Int) := by rw [hs]; simp [ofN]
        rw [e1] at hce
        have hcr := HK.out.cell (HK2.out.cell hce)
        have HSS := Lib.hid hs
        obtain ⟨ol, hol2⟩ : ∃ ol, ol = out.length := ⟨_, rfl⟩
        rw [← hol2] at e5 hol
        obtain ⟨most, hmost⟩ : ∃ most, most = 1024 - ol := ⟨_, rfl⟩
        have HWK : Hid (∀ va l (s : Nat) W, CbsAt W va (ofCs l) → l.length ≤ 1024 → (∀ c ∈ l, c.1 < 16777216 ∧ c.2 < 16777216) → s < 16777216 → Calls Tryz.prog 84 #[va, .int .i64 s, .int .i64 (1024 - (ol : Int))] W fun e w' => ((most < (withK l s).length ∧ e = .returned (.tuple #[.slice none 0 0, errV 4])) ∨ (¬ most < (withK l s).length ∧ ∃ v, e = .returned (.tuple #[v, .nilIface]) ∧ CbsAt w' v (ofCs (withK l s)))) ∧ Kept W w') := Lib.hid fun va l s W h1 h2 h3 h4 => by
          have e : (1024 : Int) - (ol : Int) = (most : Int) := by omega
          rw [e]
          exact HWI.out va l s most W h1 h2 h3 h4 (by omega)
        have HOL := Lib.hid hol2
        have HMO := Lib.hid hmost
        have hmo : most ≤ 1024 := by omega
        have hki : ¬ (k : Int) < 0 := by omega
        subst e5
        clear he2 he4 he5 he6 e1 hce hs hol2 hmost
        go_wp2_with fail
        obtain ⟨wo, rfl⟩ : ∃ wo : World, wo = wr := ⟨_, rfl⟩
        obtain ⟨w5, hw5⟩ : ∃ w5, w5 = wo.alloc (.cells #[.int .i64 s, .int .i64 0] 55) := ⟨_, rfl⟩
        have HL5 : Hid (CbsAt w5 (.slice (some ⟨wo.heap.size, 0, none⟩) 1 1) (ofCs [(s, 0)])) := Lib.hid (by rw [hw5]; exact (own_cube wo 0 ((s : Int), ((0 : Nat) : Int)) (Nat.zero_le _)).at)
        have HK5 : Hid (Kept wo w5) := Lib.hid (by rw [hw5]; exact (Kept.refl wo).alloc _)
        have hs24 : s < 16777216 := HMK.out s (by rw [HSS.out]; exact List.getElem_mem hkl)
        rw [← hw5]
        have HB5 : Hid (∀ c ∈ [(s, 0)], c.1 < 16777216 ∧ c.2 < 16777216) := Lib.hid fun c hc => by rw [List.mem_singleton] at hc; rw [hc]; exact ⟨hs24, by show (0 : Nat) < 16777216; decide⟩
        clear hw5 hs24
        go_loopg [9, 36] k (fun jx s9 s36 W => ∃ (j : Nat) (l : List (Nat × Nat)), j ≤ k ∧ s36 = .int .i64 j ∧ k - j ≤ jx ∧ l.length ≤ 1024 ∧ Hid (CbsAt W s9 (ofCs l)) ∧ Hid (ownC most ((ns.take k).drop j) l = ownC most (ns.take k) [(s, 0)]) ∧ Hid (∀ c ∈ l, c.1 < 16777216 ∧ c.2 < 16777216) ∧ Hid (Kept wo W))
        case atStart => exact ⟨0, [(s, 0)], Nat.zero_le _, rfl, by omega, by simp, HL5, Lib.hid (by rw [List.drop_zero]), HB5, HK5⟩
        case round =>
          obtain ⟨j, l, hj, rfl, hjx, hll, HL, HOW, HBL, HKW⟩ := hrel
          obtain ⟨a9, c9, e9⟩ := HL.out.shape
          rw [ofCs_len] at e9
          by_cases hjk : j < k
          · have hji : (j : Int) < (k : Int) := by omega
            have hjl : j < ns.length := by omega
            have hce2 := HS.out
            obtain ⟨fa', fc', he1, _, _, he2⟩ := hce2
            injection he1 with he3 he4 he5
            subst he3
            obtain ⟨b', o', he7, hce⟩ := he2 j (by simpa [ofN] using hjl)
            cases he7
            obtain ⟨y, hy⟩ : ∃ y, y = ns[j] := ⟨_, rfl⟩
            have e1 : (ofN ns)[j]'(by simpa [ofN] using hjl) = (y : Int) := by rw [hy]; simp [ofN]
            rw [e1] at hce
            have hcy := HKW.out.cell (HK.out.cell (HK2.out.cell hce))
            have hy24 : y < 16777216 := HMK.out y (by rw [hy]; exact List.getElem_mem hjl)
            have HST : Hid (ownC most ((ns.take k).drop j) l = if most < (withK l y).length then none else ownC most ((ns.take k).drop (j + 1)) (withK l y)) := Lib.hid (by
              have h := ownC_step most (ns.take k) l j (by rw [List.length_take]; omega)
              have e : (ns.take k)[j]'(by rw [List.length_take]; omega) = y := by rw [List.getElem_take, hy]
              rw [e] at h
              exact h)
            have HWC := Lib.hid (HWK.out _ l y _ HL.out hll HBL.out hy24)
            have HBW := Lib.hid (with_lt (b := y) (l := l) HBL.out)
            subst e9
            clear he2 he4 he5 hce e1 hy hy24
            go_wp2_with (go_at_call 84; refine HWC.out.mono ?_)
            rintro e w6 ⟨h6, hk6⟩
            have HK6 := Lib.hid hk6
            rcases h6 with ⟨hlt6, rfl⟩ | ⟨hge6, v6, rfl, hv6⟩
            · rw [errV_pos (by omega)]
              have HN : Hid (R = none) := Lib.hid (by
                rw [← HCC.out, cubesC_step (ns.take k) out ns k hkl, ← HOL.out, ← HMO.out, ← HSS.out, ← HOW.out, HST.out, if_pos hlt6])
              clear hk6 hlt6
              go_wp2
              go_ret2
              obtain ⟨e1, e2⟩ := HQN.out HN.out
              rw [e1, e2]
              exact ⟨⟨_, rfl, CbsAt.nil _⟩, HK2.out.trans (HK.out.trans (HKW.out.trans HK6.out))⟩
            · have HV6 := Lib.hid hv6
              have HG6 := Lib.hid hge6
              clear hk6 hv6 hge6
              go_wp2_with fail
              go_roundg (k - (j + 1))
              case measure => omega
              case rel => exact ⟨j + 1, withK l y, by omega, by go_num, Nat.le_refl _, by have := HG6.out; omega, HV6, Lib.hid (by rw [← HOW.out, HST.out, if_neg HG6.out]), HBW, Lib.hid (HKW.out.trans HK6.out)⟩
          · have hje : j = k := by omega
            have hji : ¬ (j : Int) < (k : Int) := by omega
            have HOS : Hid (ownC most (ns.take k) [(s, 0)] = some l) := Lib.hid (by
              rw [← HOW.out, hje, List.drop_of_length_le (by rw [List.length_take]; omega)]
              rfl)
            have HFT : Hid (ol + l.length ≤ 1024) := Lib.hid (own_fits HOS.out HMO.out hol fun h => by rw [HOL.out, HE0.out h]; rfl)
            have HCN : Hid (cubesC (ns.take (k + 1)) (out ++ l) (ns.drop (k + 1)) = R) := Lib.hid (by
              have h := HCC.out
              rw [cubesC_step (ns.take k) out ns k hkl, ← HOL.out, ← HMO.out, ← HSS.out, HOS.out] at h
              rw [List.take_succ_eq_append_getElem hkl, ← HSS.out]
              exact h)
            subst e9
            clear hje
            go_wp2_with (at_builtin; refine app_cbs rfl _ _ rfl w2.heap.size _ (ofCs out) rfl (HO.out.kept HKW.out) _ (ofCs l) rfl HL.out (by rw [ofCs_len, ofCs_len, ← HOL.out]; have := HFT.out; omega) (Nat.le_trans HK.out.size HKW.out.size) ?_; intro v' w' h5 _ h6; have H5 := Lib.hid h5; have H6 := Lib.hid h6; clear h5 h6)
            go_roundg (m - (k + 1))
            case measure => omega
            case rel =>
              refine ⟨k + 1, out ++ l, by omega, by go_num, Nat.le_refl _, by rw [List.length_append, ← HOL.out]; exact HFT.out, Lib.hid (by rw [ofCs_app]; exact H5.out), HCN, Lib.hid (fun h => ?_), Lib.hid ((HK.out.trans HKW.out).app H6.out)⟩
              have := congrArg List.length h
              rw [List.length_take, List.length_nil] at this
              omega
      · have hke : k = m := by omega
        have hkn : ¬ (k : Int) < (m : Int) := by omega
        have HE : Hid (R = some out) := Lib.hid (by
          have h := HCC.out
          rw [hke, HML.out, List.drop_length] at h
          exact h.symm)
        subst e5
        clear hke
        go_wp2
        go_ret2
        obtain ⟨e1, e2⟩ := HQS.out _ HE.out
        rw [e1, e2]
        exact ⟨⟨_, rfl, HO.out.at⟩, HK2.out.trans HK.out⟩
  · have hcr : cubR xs = (chkI xs, []) := by unfold cubR; rw [if_pos h0]
    rw [hcr]
    obtain ⟨q, hq⟩ : ∃ q, q = chkI xs := ⟨_, rfl⟩
    rw [← hq] at HC h0 ⊢
    rw [errV_pos h0] at HC ⊢
    clear hv hq hcr
    go_enter Tryz.func23, Tryz.ntmps23
    go_wp2_with (go_at_call 34; refine (HC.out _ (Kept.refl _)).mono ?_; rintro e w2 ⟨rfl, hk2⟩; have HK2 := Lib.hid hk2; clear hk2)
    go_ret2
    exact ⟨⟨_, rfl, CbsAt.nil _⟩, HK2.out⟩
end Go.Proofs.YtbkchheikkbebaaGreatDoor

/-
  Walks: the reference's less and Cubes of disjoint products.
-/
namespace Go.Proofs.YtbkchheikkbebaaGreatDoor
open Go.RowKit

theorem elemsK_len (s : Nat) : (elemsK s).length ≤ 24 := elems_len s 24
theorem IntsAt.get {w : World} {a : Option Addr} {n c : Nat} {xs : List Int} (h : IntsAt w (.slice a n c) xs) (i : Nat) (hi : i < xs.length) : ∃ b o, a = some ⟨b, o, none⟩ ∧ w.cell? ⟨b, o + i, none⟩ = some (.int .i64 xs[i]) := by
  obtain ⟨a', c', h1, _, _, h5⟩ := h
  injection h1 with h1
  subst h1
  exact h5 i hi
theorem wrap_pow {i : Nat} (h : i < 24) : IntKind.i64.wrap ((2 : Int) ^ i) = ((2 ^ i : Nat) : Int) := by
  have h1 := pow_lt24 h
  rw [show (2 : Int) ^ i = ((2 ^ i : Nat) : Int) by simp]
  generalize (2 : Nat) ^ i = z at *
  exact wrap_i64 _ (by omega) (by omega)
set_option maxRecDepth 100000 in
set_option maxHeartbeats 4000000 in
theorem refless_any (y n s : Nat) (hy : y < 16777216) (hn : n < 16777216) (hs : s < 16777216) (w : World) :
    Calls Tryz.prog 86 #[.agg #[.int .i64 y, .int .i64 n], .int .i64 s] w fun e w' => (∃ v, e = .returned v ∧ CbsAt w' v (ofCs (lessK (y, n) s))) ∧ Kept w w' := by
  have hn63 : n < 9223372036854775808 := Nat.lt_trans hn (by decide)
  obtain ⟨z, hz⟩ : ∃ z, z = n &&& s := ⟨_, rfl⟩
  have pz := and_i64 n s (by omega) (by omega)
  rw [← hz] at pz
  have hz2 : z = s &&& n := by rw [hz, Nat.and_comm]
  by_cases h0 : z = 0
  · subst h0
    rw [lessK_yes hz2.symm]
    obtain ⟨E, hE⟩ : ∃ E, E = (List.range 24).filter fun i => (sdiff s y).testBit i := ⟨_, rfl⟩
    rw [← hE]
    have hE2 : elemsK (sdiff s y) = E := hE.symm
    have HEL : Hid (∀ W, Calls Tryz.prog 165 #[.int .i64 (sdiff s y : Nat)] W fun e w' => (∃ v, e = .returned v ∧ OwnInts w' W.heap.size v (ofN E)) ∧ Kept W w') := Lib.hid fun W => by
      have h := elems_own (sdiff s y) (sd_lt24 hs) W
      rw [hE2] at h
      exact h
    have HE24 : Hid (∀ i ∈ E, i < 24) := Lib.hid fun i hi => by rw [← hE2] at hi; exact (elems_lt hi).1
    have hEl : E.length ≤ 24 := by rw [← hE2]; exact elemsK_len _
    have HLY := Lib.hid fun k => lessY_lt (is := E.take k) hy fun i hi => HE24.out i (List.mem_of_mem_take hi)
    have p1 := andNot_i64 s y (by omega) (by omega)
    obtain ⟨w1, hw1⟩ : ∃ w1, w1 = w.alloc (.cells #[.int .i64 y, .int .i64 n] 55) := ⟨_, rfl⟩
    have HR1 : Hid (RowAt w1 w.heap.size 55 [.int .i64 y, .int .i64 n]) := Lib.hid (by rw [hw1]; exact RowAt.made w #[.int .i64 y, .int .i64 n] 55)
    have HK1 : Hid (Kept w w1) := Lib.hid (by rw [hw1]; exact (Kept.refl w).alloc _)
    have HS1 : Hid (w1.heap.size = w.heap.size + 1) := Lib.hid (by rw [hw1]; simp)
    have HW1 := Lib.hid hw1
    obtain ⟨zz, hzz⟩ : ∃ zz, zz = sdiff s y := ⟨_, rfl⟩
    rw [← hzz] at HEL p1
    obtain ⟨m, hm⟩ : ∃ m, m = E.length := ⟨_, rfl⟩
    have HM := Lib.hid hm
    rw [← hm] at hEl
    clear hz hz2 hw1 hs hE hE2 hzz hy hn hm
    go_enter Tryz.func86, Tryz.ntmps86
    go_wp2_with fail
    rw [← HW1.out]
    refine (HEL.out _).mono ?_
    rintro e w2 ⟨⟨v2, rfl, hv2⟩, hk2⟩
    have HOE := Lib.hid hv2
    obtain ⟨ea, ec, rfl, ⟨hec, _⟩, hel, _⟩ := hv2.ints
    have hlE : (ofN E).length = m := by rw [HM.out]; unfold ofN; rw [List.length_map]
    rw [hlE] at HOE ⊢
    have HX : Hid (∀ k (hk : k < E.length), ∃ g, ea = some ⟨g, 0, none⟩ ∧ w1.heap.size ≤ g ∧ g < w2.heap.size ∧ w2.cell? ⟨g, k, none⟩ = some (.int .i64 (E[k] : Nat))) := Lib.hid fun k hk => by
      obtain ⟨⟨_, h2⟩, _⟩ := HOE.out
      rcases h2 with ⟨h3, h4⟩ | ⟨g, cap, cur, h3, h5, h6, _⟩
      · rw [hlE] at h4; have := HM.out; omega
      · injection h3 with h3
        refine ⟨g, h3, h5, ?_, ?_⟩
        · rcases Nat.lt_or_ge g w2.heap.size with h8 | h8
          · exact h8
          · simp [Array.getElem?_eq_none h8] at h6
        · obtain ⟨b, o, h7, h8⟩ := HOE.out.ints.get k (by rw [hlE, HM.out]; exact hk)
          rw [h3] at h7
          cases h7
          simpa [ofN] using h8
    have HK2 := Lib.hid hk2
    have HR2 := Lib.hid (HR1.out.kept hk2)
    clear hec hel hk2 hlE hv2
    go_wp2_with fail
    go_loopg [5, 21] m (fun kx s5 s21 wr => ∃ k : Nat, k ≤ m ∧ s21 = .int .i64 k ∧ m - k ≤ kx ∧ Hid (OwnCbs wr w2.heap.size s5 (ofCs (lessL y n (E.take k)))) ∧ Hid (RowAt wr w.heap.size 55 [.int .i64 (lessY y (E.take k) : Nat), .int .i64 n]) ∧ Hid (OnlyAt w.heap.size w2 wr))
    case atStart => exact ⟨0, Nat.zero_le _, rfl, by omega, Lib.hid (OwnCbs.nil _ _), HR2, Lib.hid (OnlyAt.refl _ _)⟩
    case round =>
      obtain ⟨k, hk, rfl, hkx, HO, HR, HA⟩ := hrel
      obtain ⟨a5, c5, e5⟩ := HO.out.at.shape
      have hnl : (E.take k).length = k := by rw [List.length_take]; have := HM.out; omega
      rw [ofCs_len, lessL_len, hnl] at e5
      have HNL := Lib.hid hnl
      clear hnl
      by_cases hlt : k < m
      · have hkn : (k : Int) < (m : Int) := by omega
        have hkE : k < E.length := by have := HM.out; omega
        obtain ⟨g, rfl, hg1, hg2, hce⟩ := HX.out k hkE
        have hgc : wr.cell? ⟨g, k, none⟩ = some (.int .i64 (E[k] : Nat)) := by
          rw [← hce]
          have := HA.out.block g hg2 (by have := HS1.out; omega)
          simp only [World.cell?, this]
        have f2 := HLY.out k
        have hi24 := HE24.out E[k] (List.getElem_mem hkE)
        have p2 := pow_i64 E[k] (by omega)
        have hp := pow_lt24 hi24
        have HTK : Hid (E.take (k + 1) = E.take k ++ [E[k]]) := Lib.hid (List.take_succ_eq_append_getElem hkE)
        obtain ⟨i, hi⟩ : ∃ i, i = E[k] := ⟨_, rfl⟩
        rw [← hi] at hgc hi24 p2 hp HTK
        obtain ⟨yk, hyk⟩ : ∃ yk, yk = lessY y (E.take k) := ⟨_, rfl⟩
        rw [← hyk] at HR f2
        have HYK := Lib.hid hyk
        have hy63 : yk < 9223372036854775808 := Nat.lt_trans f2 (by decide)
        have y0 := HR.out.cell (i := 0) (by simp)
        have y1 := HR.out.cell (i := 1) (by simp)
        simp only [List.getElem_cons_succ, List.getElem_cons_zero] at y0 y1
        have g0 := HR.out.free 0
        obtain ⟨pk, hpk⟩ : ∃ pk, pk = 2 ^ i := ⟨_, rfl⟩
        rw [← hpk] at p2 hp
        have hp63 : pk < 9223372036854775808 := Nat.lt_trans hp (by decide)
        have p3 := or_i64 n pk hn63 hp63
        have p4 := or_i64 yk pk hy63 hp63
        obtain ⟨nk, hnk⟩ : ∃ nk, nk = n ||| pk := ⟨_, rfl⟩
        obtain ⟨yk', hyk'⟩ : ∃ yk', yk' = yk ||| pk := ⟨_, rfl⟩
        have HNK : Hid (nk = n ||| 2 ^ i) := Lib.hid (by rw [hnk, hpk])
        have HYK' : Hid (yk' = yk ||| 2 ^ i) := Lib.hid (by rw [hyk', hpk])
        rw [← hnk] at p3
        rw [← hyk'] at p4
        have HEQ : Hid (bits .or .i64 (n : Int) (IntKind.i64.wrap (2 ^ i)) = (nk : Int)) := Lib.hid (by
          rw [wrap_pow hi24, ← hpk, p3])
        have hi0 : ¬ (i : Int) < 0 := by omega
        have hsh : ¬ (64 : Int) ≤ (i : Int) := by omega
        subst e5
        clear hce hg1 hg2 f2 hi hyk hpk hnk hyk' hp hp63 hy63 hkE
        have HKD : Hid (∀ o : Obj, Kept wr (wr.drew.alloc o) ∧ Kept wr ((wr.alloc o).drew) ∧ Kept wr (wr.alloc o)) := Lib.hid fun o => ⟨(Kept.refl _).drew.alloc _, ((Kept.refl _).alloc _).drew, (Kept.refl _).alloc _⟩
        have hB2 := HA.out.size
        go_wp2
        go_region_law (refine step_cb (by rfl) _ _ (by rfl) w2.heap.size _ (ofCs (lessL y n (E.take k))) (by rfl) (HO.out.kept (by first | exact (HKD.out _).1 | exact (HKD.out _).2.1 | exact (HKD.out _).2.2)) wr.heap.size ((yk : Int), bits .or .i64 (n : Int) (IntKind.i64.wrap (2 ^ i))) (by rfl) (by first | exact range_two wr.drew _ _ _ | exact rangeC_kept (range_two wr _ _ _) ((Kept.refl _).drew) | exact range_two wr _ _ _) (by rw [ofCs_len, lessL_len, HNL.out]; omega) (by simp; omega) ?_; intro v7 w7 h7 hg7; have O7 := Lib.hid h7; have G7 := Lib.hid hg7; clear h7 hg7)
        all_goals
          rw [HEQ.out] at O7
          have HRD : Hid (RowAt w7 w.heap.size 55 [.int .i64 yk, .int .i64 n] ∧ OnlyAt w.heap.size w2 w7) := Lib.hid (by
            have hh : ∀ W, Kept wr W → Below w2.heap.size W w7 → RowAt w7 w.heap.size 55 [.int .i64 yk, .int .i64 n] ∧ OnlyAt w.heap.size w2 w7 := fun W h1 h2 =>
              ⟨(HR.out.kept h1).same (h2.block _ (by have := HS1.out; have := HK2.out.size; omega)), ⟨h2.os.trans (h1.os.trans HA.out.os), h2.tape.trans (h1.tape.trans HA.out.tape), h2.output.trans (h1.output.trans HA.out.output), Nat.le_trans HA.out.size (Nat.le_trans h1.size h2.size), fun i hi hne => (h2.block i hi).trans ((h1.block i (Nat.lt_of_lt_of_le hi HA.out.size)).trans (HA.out.block i hi hne))⟩⟩
            first
              | exact hh _ (HKD.out _).1 G7.out
              | exact hh _ (HKD.out _).2.1 G7.out
              | exact hh _ (HKD.out _).2.2 G7.out)
          obtain ⟨a7, c7, e7⟩ := O7.out.at.shape
          obtain ⟨n7, hn7⟩ : ∃ n7, n7 = (ofCs (lessL y n (E.take k)) ++ [((yk : Int), (nk : Int))]).length := ⟨_, rfl⟩
          rw [← hn7] at e7
          subst e7
          clear hn7
          have z0 := HRD.out.1.cell (i := 0) (by simp)
          have z1 := HRD.out.1.cell (i := 1) (by simp)
          simp only [List.getElem_cons_succ, List.getElem_cons_zero] at z0 z1
          have t0 := HRD.out.1.free 0
          go_wp2
          go_region
          all_goals
            go_wp2_with fail
            go_roundg (m - (k + 1))
            case measure => omega
            case rel =>
              refine ⟨k + 1, by omega, by go_num, Nat.le_refl _, Lib.hid ?_, Lib.hid ?_, Lib.hid ?_⟩
              · rw [HTK.out, lessL_snoc, ← HYK.out, ← HNK.out, ofCs_one]
                have hold : ∀ W, OnlyAt w.heap.size w7 W → OwnCbs W w2.heap.size (.slice a7 n7 c7) (ofCs (lessL y n (E.take k)) ++ [((yk : Int), (nk : Int))]) := fun W h => O7.out.older (by have := HS1.out; have := HK2.out.size; omega) h
                first
                  | exact hold _ ((OnlyAt.refl _ _).store 0 _)
                  | exact hold _ (((OnlyAt.refl _ _).store 0 _).trans (OnlyAt.kept (Kept.refl _).drew))
              · rw [HTK.out, lessY_snoc, ← HYK.out, ← HYK'.out]
                first
                  | exact HRD.out.1.store 0 _
                  | exact (HRD.out.1.store 0 _).kept ((Kept.refl _).drew)
                  | (rw [p2, p4]; exact HRD.out.1.store 0 _)
                  | (rw [p2, p4]; exact (HRD.out.1.store 0 _).kept ((Kept.refl _).drew))
              · first
                  | exact HRD.out.2.store 0 _
                  | exact (HRD.out.2.store 0 _).trans (OnlyAt.kept (Kept.refl _).drew)
      · have hke : k = m := by omega
        have hkn : ¬ (k : Int) < (m : Int) := by omega
        have HE := HO.out.at
        rw [hke, HM.out, List.take_length] at HE
        have HE := Lib.hid HE
        have HF := Lib.hid (OnlyAt.toKept HA.out (HK1.out.trans HK2.out) (Nat.le_refl _))
        subst e5
        clear hke
        go_wp2
        go_ret
        exact ⟨⟨_, rfl, HE.out⟩, HF.out⟩
  · have hn0 : ¬ (z : Int) = 0 := by omega
    rw [lessK_no (by rw [← hz2]; exact h0)]
    clear hz h0 hz2
    go_enter Tryz.func86, Tryz.ntmps86
    go_wp2
    go_ret
    refine ⟨⟨_, rfl, ?_⟩, ((Kept.refl _).alloc _).alloc _⟩
    have h := (own_cube (w.alloc (.cells #[.int .i64 y, .int .i64 n] 55)) 0 ((y : Int), (n : Int)) (Nat.zero_le _)).at
    simpa [ofCs, ofC] using h
end Go.Proofs.YtbkchheikkbebaaGreatDoor

/-
  Walk: the reference's Cubes of disjoint products.
-/
namespace Go.Proofs.YtbkchheikkbebaaGreatDoor
open Go.RowKit

set_option maxRecDepth 100000 in
set_option maxHeartbeats 8000000 in
theorem refcubes_any (va : Value) (xs : List Int) (w : World) (hv : IntsAt w va xs) :
    Calls Tryz.prog 24 #[va] w fun e w' => (∃ v', e = .returned (.tuple #[v', .int .i64 ((cubR xs).1 : Nat)]) ∧ CbsAt w' v' (ofCs (cubR xs).2)) ∧ Kept w w' := by
  have HC := Lib.hid fun W (h : Kept w W) => rcheck06_any va xs W (hv.kept h)
  obtain ⟨a, m, c, rfl⟩ := hv.shape
  by_cases h0 : chkI xs = 0
  · obtain ⟨hlen, hok⟩ := chkI_ok h0
    obtain ⟨hxs, hmk⟩ := nats_of hok
    have hcr : cubR xs = match cubesK (natsI xs) with | none => (4, []) | some l => (0, l) := by unfold cubR; rw [if_neg (by omega)]; try (cases cubesK (natsI xs) <;> rfl)
    obtain ⟨q, hq⟩ : ∃ q, q = (cubR xs).1 := ⟨_, rfl⟩
    obtain ⟨Lr, hLr⟩ : ∃ Lr, Lr = (cubR xs).2 := ⟨_, rfl⟩
    rw [← hq, ← hLr]
    rw [hcr] at hq hLr
    rw [h0] at HC
    obtain ⟨ns, hns⟩ : ∃ ns, ns = natsI xs := ⟨_, rfl⟩
    rw [← hns] at hxs hmk hq hLr
    have hnl : ns.length ≤ 1024 := by rw [hns]; unfold natsI; rw [List.length_map]; exact hlen
    have hml : m = ns.length := by
      obtain ⟨a', c', he, _⟩ := hv
      injection he with _ he _
      rw [he, hns]; unfold natsI; rw [List.length_map]
    have HS : Hid (IntsAt w (.slice a m c) (ofN ns)) := Lib.hid (by rw [← hxs]; exact hv)
    have HMK : Hid (∀ s ∈ ns, s < 16777216) := Lib.hid fun s hs => by have := hmk s hs; unfold Mk at this; omega
    have HML := Lib.hid hml
    have HWI := Lib.hid fun (c : Nat × Nat) (s : Nat) W (h : c.1 < 16777216 ∧ c.2 < 16777216) (hs : s < 16777216) => refless_any c.1 c.2 s h.1 h.2 hs W
    obtain ⟨R, hR⟩ : ∃ R, R = cubesK ns := ⟨_, rfl⟩
    rw [← hR] at hq hLr
    have HR := Lib.hid hR
    have HQS : Hid (∀ o, R = some o → q = 0 ∧ Lr = o) := Lib.hid fun o h => by rw [h] at hq hLr; exact ⟨hq, hLr⟩
    have HQN : Hid (R = none → q = 4 ∧ Lr = []) := Lib.hid fun h => by rw [h] at hq hLr; exact ⟨hq, hLr⟩
    have hm9 : m ≤ 1024 := by omega
    clear hv hxs hmk hnl hml hR hns hcr h0 hlen hok hq hLr
    go_enter Tryz.func24, Tryz.ntmps24
    go_wp2_with fail
    refine (HC.out _ (Kept.refl _)).mono ?_
    rintro e w2 ⟨rfl, hk2⟩
    have HK2 := Lib.hid hk2
    clear hk2
    go_wp2_with fail
    go_loopg [5, 21] m (fun kx s5 s21 wr => ∃ (k : Nat) (out : List (Nat × Nat)), k ≤ m ∧ s21 = .int .i64 k ∧ m - k ≤ kx ∧ out.length ≤ 1024 ∧ Hid (OwnCbs wr w2.heap.size s5 (ofCs out)) ∧ Hid (cubesC (ns.take k) out (ns.drop k) = R) ∧ Hid (ns.take k = [] → out = []) ∧ Hid (Kept w2 wr))
    case atStart => exact ⟨0, [], Nat.zero_le _, rfl, by omega, by simp, Lib.hid (OwnCbs.nil _ _), Lib.hid (by rw [HR.out]; simp [cubesK]), Lib.hid (fun _ => rfl), Lib.hid (Kept.refl _)⟩
    case round =>
      obtain ⟨k, out, hk, rfl, hkx, hol, HO, HCC, HE0, HK⟩ := hrel
      obtain ⟨a5, c5, e5⟩ := HO.out.at.shape
      rw [ofCs_len] at e5
      by_cases hlt : k < m
      · have hkl : k < ns.length := by have := HML.out; omega
        have hkn : (k : Int) < (m : Int) := by omega
        obtain ⟨fa', fc', he1, ⟨he6, _⟩, _, he2⟩ := HS.out
        injection he1 with he3 he4 he5
        subst he3
        have hkc : k ≤ c := by rw [he5]; omega
        have hkc1 : ¬ (c : Int) < (k : Int) := by omega
        have hkc2 : (k : Int) ≤ (c : Int) := by omega
        obtain ⟨b, o, rfl, hce⟩ := he2 k (by simpa [ofN] using hkl)
        obtain ⟨s, hs⟩ : ∃ s, s = ns[k] := ⟨_, rfl⟩
        have e1 : (ofN ns)[k]'(by simpa [ofN] using hkl) = (s : Int) := by rw [hs]; simp [ofN]
        rw [e1] at hce
        have hcr := HK.out.cell (HK2.out.cell hce)
        have HSS := Lib.hid hs
        obtain ⟨ol, hol2⟩ : ∃ ol, ol = out.length := ⟨_, rfl⟩
        rw [← hol2] at e5 hol
        obtain ⟨most, hmost⟩ : ∃ most, most = 1024 - ol := ⟨_, rfl⟩
        have HOL := Lib.hid hol2
        have HMO := Lib.hid hmost
        have hmo : most ≤ 1024 := by omega
        have hki : ¬ (k : Int) < 0 := by omega
        subst e5
        clear he2 he4 he5 he6 e1 hce hs hol2 hmost
        go_wp2_with fail
        obtain ⟨wo, rfl⟩ : ∃ wo : World, wo = wr := ⟨_, rfl⟩
        obtain ⟨w5, hw5⟩ : ∃ w5, w5 = wo.alloc (.cells #[.int .i64 s, .int .i64 0] 55) := ⟨_, rfl⟩
        have HL5 : Hid (CbsAt w5 (.slice (some ⟨wo.heap.size, 0, none⟩) 1 1) (ofCs [(s, 0)])) := Lib.hid (by rw [hw5]; exact (own_cube wo 0 ((s : Int), ((0 : Nat) : Int)) (Nat.zero_le _)).at)
        have HK5 : Hid (Kept wo w5) := Lib.hid (by rw [hw5]; exact (Kept.refl wo).alloc _)
        have hs24 : s < 16777216 := HMK.out s (by rw [HSS.out]; exact List.getElem_mem hkl)
        rw [← hw5]
        have HB5 : Hid (∀ c ∈ [(s, 0)], c.1 < 16777216 ∧ c.2 < 16777216) := Lib.hid fun c hc => by rw [List.mem_singleton] at hc; rw [hc]; exact ⟨hs24, by show (0 : Nat) < 16777216; decide⟩
        clear hw5 hs24
        go_loopg [8, 33] k (fun jx s8 s33 W => ∃ (j : Nat) (l : List (Nat × Nat)), j ≤ k ∧ s33 = .int .i64 j ∧ k - j ≤ jx ∧ l.length ≤ 1024 ∧ Hid (CbsAt W s8 (ofCs l)) ∧ Hid (ownC most ((ns.take k).drop j) l = ownC most (ns.take k) [(s, 0)]) ∧ Hid (∀ c ∈ l, c.1 < 16777216 ∧ c.2 < 16777216) ∧ Hid (Kept wo W))
        case atStart => exact ⟨0, [(s, 0)], Nat.zero_le _, rfl, by omega, by simp, HL5, Lib.hid (by rw [List.drop_zero]), HB5, HK5⟩
        case round =>
          obtain ⟨j, l, hj, rfl, hjx, hll, HL, HOW, HBL, HKW⟩ := hrel
          obtain ⟨a9, c9, e9⟩ := HL.out.shape
          rw [ofCs_len] at e9
          by_cases hjk : j < k
          · have hji : (j : Int) < (k : Int) := by omega
            have hjl : j < ns.length := by omega
            have hce2 := HS.out
            obtain ⟨fa', fc', he1, _, _, he2⟩ := hce2
            injection he1 with he3 he4 he5
            subst he3
            obtain ⟨b', o', he7, hce⟩ := he2 j (by simpa [ofN] using hjl)
            cases he7
            obtain ⟨y, hy⟩ : ∃ y, y = ns[j] := ⟨_, rfl⟩
            have e1 : (ofN ns)[j]'(by simpa [ofN] using hjl) = (y : Int) := by rw [hy]; simp [ofN]
            rw [e1] at hce
            have hcy := HKW.out.cell (HK.out.cell (HK2.out.cell hce))
            have hy24 : y < 16777216 := HMK.out y (by rw [hy]; exact List.getElem_mem hjl)
            have HST : Hid (ownC most ((ns.take k).drop j) l = if most < (withK l y).length then none else ownC most ((ns.take k).drop (j + 1)) (withK l y)) := Lib.hid (by
              have h := ownC_step most (ns.take k) l j (by rw [List.length_take]; omega)
              have e : (ns.take k)[j]'(by rw [List.length_take]; omega) = y := by rw [List.getElem_take, hy]
              rw [e] at h
              exact h)
            have HY24 := Lib.hid hy24
            have HBW := Lib.hid (with_lt (b := y) (l := l) HBL.out)
            subst e9
            clear he2 he4 he5 hce e1 hy hy24
            go_wp2_with fail
            obtain ⟨W0, rfl⟩ : ∃ W0 : World, W0 = wr := ⟨_, rfl⟩
            obtain ⟨ll, hll2⟩ : ∃ ll, ll = l.length := ⟨_, rfl⟩
            rw [← hll2] at hll HL ⊢
            have HLL := Lib.hid hll2
            clear hll2
            go_loopg [11, 39] ll (fun ix s11 s39 W => ∃ i : Nat, i ≤ ll ∧ s39 = .int .i64 i ∧ ll - i ≤ ix ∧ Hid (OwnCbs W W0.heap.size s11 (ofCs (withK (l.take i) y))) ∧ Hid (Kept W0 W))
            case atStart => exact ⟨0, Nat.zero_le _, rfl, by omega, Lib.hid (OwnCbs.nil _ _), Lib.hid (Kept.refl _)⟩
            case round =>
              obtain ⟨i, hi, rfl, hix, HO2, HKI⟩ := hrel
              obtain ⟨a8, c8, e8⟩ := HO2.out.at.shape
              rw [ofCs_len] at e8
              by_cases hil : i < ll
              · have hin : (i : Int) < (ll : Int) := by omega
                have hilen : i < l.length := by have := HLL.out; omega
                obtain ⟨b2, o2, rfl, hrg⟩ := HL.out.cells i hilen
                have hrg2 := rangeC_kept hrg HKI.out
                have y0 := hrg2 0 _ rfl
                have y1 := hrg2 1 _ rfl
                rw [Nat.add_zero] at y0
                have HLC := Lib.hid fun W => HWI.out l[i] y W (HBL.out _ (List.getElem_mem hilen)) HY24.out
                have HSW : Hid (withK (l.take (i + 1)) y = withK (l.take i) y ++ lessK l[i] y) := Lib.hid (by rw [List.take_succ_eq_append_getElem hilen, withK_snoc])
                have HLW : Hid ((withK (l.take i) y).length + (lessK l[i] y).length ≤ 1099511627776) := Lib.hid (by
                  have h1 := withK_len y (l.take i)
                  have h2 := lessK_len l[i] y
                  have h3 : (l.take i).length ≤ i := by rw [List.length_take]; omega
                  omega)
                obtain ⟨z0, hz0⟩ : ∃ z0, z0 = l[i].1 := ⟨_, rfl⟩
                obtain ⟨z1, hz1⟩ : ∃ z1, z1 = l[i].2 := ⟨_, rfl⟩
                obtain ⟨M, hM⟩ : ∃ M, M = lessK l[i] y := ⟨_, rfl⟩
                have e : (l[i].1, l[i].2) = l[i] := rfl
                rw [e, ← hM] at HLC
                rw [← hz0, ← hz1] at HLC
                rw [← hM] at HSW HLW
                rw [← hz0] at y0
                rw [← hz1] at y1
                subst e8
                clear hrg hrg2 hz0 hz1 hM e
                obtain ⟨W1, rfl⟩ : ∃ W1 : World, W1 = wr := ⟨_, rfl⟩
                go_wp2_with (first
                  | (go_at_call 86; refine (HLC.out _).mono ?_; rintro e w7 ⟨⟨v7, rfl, hv7⟩, hk7⟩; have HV7 := Lib.hid hv7; have HK7 := Lib.hid (((Kept.refl W1).alloc _).trans hk7); clear hv7 hk7)
                  | (at_builtin; refine app_cbs rfl _ _ rfl W0.heap.size _ (ofCs (withK (l.take i) y)) rfl (HO2.out.kept HK7.out) _ (ofCs M) rfl HV7.out (by rw [ofCs_len, ofCs_len]; exact HLW.out) (Nat.le_trans HKI.out.size HK7.out.size) ?_; intro v' w' h5 _ h6; have H5 := Lib.hid h5; have H6 := Lib.hid h6; clear h5 h6))
                obtain ⟨a5, c5, rfl⟩ := H5.out.at.shape
                go_roundg (ll - (i + 1))
                case measure => omega
                case rel => exact ⟨i + 1, by omega, by go_num, Nat.le_refl _, Lib.hid (by rw [HSW.out, ofCs_app]; exact H5.out), Lib.hid ((HKI.out.trans HK7.out).app H6.out)⟩
              · have hie : i = ll := by omega
                have hin : ¬ (i : Int) < (ll : Int) := by omega
                have ht : l.take i = l := by rw [hie, HLL.out]; exact List.take_length
                rw [ht] at HO2 e8
                have HV6 := Lib.hid HO2.out.at
                obtain ⟨z, hz⟩ : ∃ z, z = (withK l y).length := ⟨_, rfl⟩
                rw [← hz] at e8 HST
                have HZ := Lib.hid hz
                have hzl : z ≤ 24 * 1024 := by have h := withK_len y l; have := HLL.out; omega
                subst e8
                clear hie ht hz
                by_cases hlt6 : most < z
                · have hgt : (1024 : Int) < (ol : Int) + (z : Int) := by have := HMO.out; omega
                  have HN : Hid (R = none) := Lib.hid (by
                    rw [← HCC.out, cubesC_step (ns.take k) out ns k hkl, ← HOL.out, ← HMO.out, ← HSS.out, ← HOW.out, HST.out, if_pos hlt6])
                  clear hlt6
                  go_wp2
                  go_ret2
                  obtain ⟨e1, e2⟩ := HQN.out HN.out
                  rw [e1, e2]
                  exact ⟨⟨_, rfl, CbsAt.nil _⟩, HK2.out.trans (HK.out.trans (HKW.out.trans HKI.out))⟩
                · have hgt : ¬ (1024 : Int) < (ol : Int) + (z : Int) := by have := HMO.out; omega
                  have HG6 := Lib.hid hlt6
                  clear hlt6
                  go_wp2_with fail
                  go_roundg (k - (j + 1))
                  case measure => omega
                  case rel => exact ⟨j + 1, withK l y, by omega, by go_num, Nat.le_refl _, by have := HG6.out; have := HZ.out; omega, HV6, Lib.hid (by rw [← HOW.out, HST.out, if_neg HG6.out]), HBW, Lib.hid (HKW.out.trans HKI.out)⟩
          · have hje : j = k := by omega
            have hji : ¬ (j : Int) < (k : Int) := by omega
            have HOS : Hid (ownC most (ns.take k) [(s, 0)] = some l) := Lib.hid (by
              rw [← HOW.out, hje, List.drop_of_length_le (by rw [List.length_take]; omega)]
              rfl)
            have HFT : Hid (ol + l.length ≤ 1024) := Lib.hid (own_fits HOS.out HMO.out hol fun h => by rw [HOL.out, HE0.out h]; rfl)
            have HCN : Hid (cubesC (ns.take (k + 1)) (out ++ l) (ns.drop (k + 1)) = R) := Lib.hid (by
              have h := HCC.out
              rw [cubesC_step (ns.take k) out ns k hkl, ← HOL.out, ← HMO.out, ← HSS.out, HOS.out] at h
              rw [List.take_succ_eq_append_getElem hkl, ← HSS.out]
              exact h)
            subst e9
            clear hje
            go_wp2_with (at_builtin; refine app_cbs rfl _ _ rfl w2.heap.size _ (ofCs out) rfl (HO.out.kept HKW.out) _ (ofCs l) rfl HL.out (by rw [ofCs_len, ofCs_len, ← HOL.out]; have := HFT.out; omega) (Nat.le_trans HK.out.size HKW.out.size) ?_; intro v' w' h5 _ h6; have H5 := Lib.hid h5; have H6 := Lib.hid h6; clear h5 h6)
            obtain ⟨a10, c10, e10⟩ := H5.out.at.shape
            have hl10 : ¬ (1024 : Int) < ((ofCs out ++ ofCs l).length : Int) := by rw [List.length_append, ofCs_len, ofCs_len, ← HOL.out]; have := HFT.out; omega
            obtain ⟨n10, hn10⟩ : ∃ n10, n10 = (ofCs out ++ ofCs l).length := ⟨_, rfl⟩
            rw [← hn10] at e10 hl10
            subst e10
            clear hn10
            go_wp2_with fail
            go_roundg (m - (k + 1))
            case measure => omega
            case rel =>
              refine ⟨k + 1, out ++ l, by omega, by go_num, Nat.le_refl _, by rw [List.length_append, ← HOL.out]; exact HFT.out, Lib.hid (by rw [ofCs_app]; exact H5.out), HCN, Lib.hid (fun h => ?_), Lib.hid ((HK.out.trans HKW.out).app H6.out)⟩
              have := congrArg List.length h
              rw [List.length_take, List.length_nil] at this
              omega
      · have hke : k = m := by omega
        have hkn : ¬ (k : Int) < (m : Int) := by omega
        have HE : Hid (R = some out) := Lib.hid (by
          have h := HCC.out
          rw [hke, HML.out, List.drop_length] at h
          exact h.symm)
        subst e5
        clear hke
        go_wp2
        go_ret2
        obtain ⟨e1, e2⟩ := HQS.out _ HE.out
        rw [e1, e2]
        exact ⟨⟨_, rfl, HO.out.at⟩, HK2.out.trans HK.out⟩
  · have hcr : cubR xs = (chkI xs, []) := by unfold cubR; rw [if_pos h0]
    rw [hcr]
    obtain ⟨q, hq⟩ : ∃ q, q = chkI xs := ⟨_, rfl⟩
    rw [← hq] at HC h0 ⊢
    have hq0 : ((q : Int) != 0) = true := by simp; omega
    have hq1 : ¬ (q : Int) = 0 := by omega
    clear hv hq hcr
    go_enter Tryz.func24, Tryz.ntmps24
    go_wp2_with (go_at_call 85; refine (HC.out _ (Kept.refl _)).mono ?_; rintro e w2 ⟨rfl, hk2⟩; have HK2 := Lib.hid hk2; clear hk2)
    go_ret2
    exact ⟨⟨_, rfl, CbsAt.nil _⟩, HK2.out⟩
end Go.Proofs.YtbkchheikkbebaaGreatDoor

/-
  Walks: faultlinebase.Cubes of equal lists; faultlinelaw38.many.
-/
namespace Go.Proofs.YtbkchheikkbebaaGreatDoor
open Go.RowKit

set_option maxRecDepth 100000 in
set_option maxHeartbeats 2000000 in
theorem cubes_true (L : List (Int × Int)) (va vb : Value) (w : World) (ha : CbsAt w va L) (hb : CbsAt w vb L) :
    Calls Tryz.prog 26 #[va, vb] w fun e w' => e = .returned (.bool true) ∧ Kept w w' := by
  have HA := Lib.hid ha
  have HB := Lib.hid hb
  have hl := ha.len
  obtain ⟨a0, c0, rfl⟩ := ha.shape
  obtain ⟨a1, c1, rfl⟩ := hb.shape
  obtain ⟨n, hn⟩ : ∃ n, n = L.length := ⟨_, rfl⟩
  rw [← hn] at HA HB hl ⊢
  have HN := Lib.hid hn
  clear ha hb hn
  go_enter Tryz.func26, Tryz.ntmps26
  go_wp2
  go_loopg [13] n (fun kx s13 wr => ∃ k : Nat, k ≤ n ∧ s13 = .int .i64 k ∧ n - k ≤ kx ∧ Hid (Kept w wr))
  case atStart => exact ⟨0, Nat.zero_le _, rfl, by omega, Lib.hid (Kept.refl _)⟩
  case round =>
    obtain ⟨k, hk, rfl, hkx, HK⟩ := hrel
    by_cases hlt : k < n
    · have hkl : k < L.length := by have := HN.out; omega
      obtain ⟨b1, o1, rfl, g1, g2⟩ := HA.out.get k hkl
      obtain ⟨b2, o2, rfl, g3, g4⟩ := HB.out.get k hkl
      have x1 := HK.out.cell g1
      have x2 := HK.out.cell g2
      have x3 := HK.out.cell g3
      have x4 := HK.out.cell g4
      rw [← Nat.add_assoc] at x2 x4
      generalize (L.getD k default).1 = x at *
      generalize (L.getD k default).2 = y at *
      have hki : (k : Int) < (n : Int) := by omega
      have e1 : ((x : Int) == (x : Int)) = true := by simp
      have e2 : ((y : Int) == (y : Int)) = true := by simp
      clear g1 g2 g3 g4 hkl
      go_wp2
      go_quiet (fail)
      go_wp2
      go_roundg (n - (k + 1))
      case measure => omega
      case rel => exact ⟨k + 1, by omega, by go_num, Nat.le_refl _, Lib.hid (HK.out.drewN _)⟩
    · have hki : ¬ (k : Int) < (n : Int) := by omega
      go_wp2
      go_ret
      exact ⟨rfl, HK.out⟩
/-- A list is too long to be looked at. -/
def manyB (n most : Nat) : Bool := (decide (40 < n) && decide (n ≤ most)) || decide (3000 < n)
set_option maxRecDepth 100000 in
theorem many_any (n most : Nat) (w : World) : Calls Tryz.prog 22 #[.int .i64 n, .int .i64 most] w fun e w' => e = .returned (.bool (manyB n most)) ∧ w' = w := by
  by_cases h1 : 40 < n
  · have e1 : (40 : Int) < (n : Int) := by omega
    by_cases h2 : n ≤ most
    · have e2 : (n : Int) ≤ (most : Int) := by omega
      have hb : manyB n most = true := by unfold manyB; simp [h1, h2]
      rw [hb]
      go_enter Tryz.func22, Tryz.ntmps22
      go_wp2
      go_ret
      exact ⟨rfl, rfl⟩
    · have e2 : ¬ (n : Int) ≤ (most : Int) := by omega
      have hb : manyB n most = decide (3000 < n) := by unfold manyB; simp [h1, h2]
      rw [hb]
      by_cases h3 : 3000 < n
      · have e3 : (3000 : Int) < (n : Int) := by omega
        rw [decide_eq_true h3]
        go_enter Tryz.func22, Tryz.ntmps22
        go_wp2
        go_ret
        exact ⟨rfl, rfl⟩
      · have e3 : ¬ (3000 : Int) < (n : Int) := by omega
        rw [decide_eq_false h3]
        go_enter Tryz.func22, Tryz.ntmps22
        go_wp2
        go_ret
        exact ⟨rfl, rfl⟩
  · have e1 : ¬ (40 : Int) < (n : Int) := by omega
    have e3 : ¬ (3000 : Int) < (n : Int) := by omega
    have hb : manyB n most = false := by unfold manyB; simp [h1]; omega
    rw [hb]
    go_enter Tryz.func22, Tryz.ntmps22
    go_wp2
    go_ret
    exact ⟨rfl, rfl⟩
end Go.Proofs.YtbkchheikkbebaaGreatDoor

/-
  Walks: writing to a strings.Builder that is new.
-/
namespace Go.Proofs.YtbkchheikkbebaaGreatDoor
open Go.RowKit

set_option maxHeartbeats 1000000 in
set_option maxRecDepth 100000 in
theorem bcheck_new (b : Nat) (w : World) (h0 : w.cell? ⟨b, 0, none⟩ = some (.pointer none)) (hsh : w.shape? b = some (202, 2)) (hfz : w.frozen? ⟨b, 0, none⟩ = false) :
    Calls Tryz.prog 270 #[.pointer (some ⟨b, 0, none⟩)] w fun e w' => e = .returned (.tuple #[]) ∧ w' = w.setCell ⟨b, 0, none⟩ (.pointer (some ⟨b, 0, none⟩)) := by
  have hsz : (Tryz.prog.info? 202).map (fun i => i.size) = some 2 := by kernel_rfl
  obtain ⟨j, hj, hjs⟩ := Option.map_eq_some_iff.1 hsz
  have hne : j.size ≠ 0 := by rw [hjs]; decide
  go_enter Tryz.func270, Tryz.ntmps270
  go_wp2
  rw [Lib.run_to_unsafe w ⟨b, 0, none⟩ Tryz.underlying199 Tryz.underlying261 hj hne hsh (Nat.zero_lt_succ 1)]
  simp only [Result.andThen]
  rw [Oper.upon_value]
  go_wp2
  rw [run_callFunc_extern Tryz.func292 (by kernel_rfl) (by kernel_rfl) (by kernel_rfl) (e := Extern.AbiNoEscape.same) (by kernel_rfl)]
  rw [Lib.run_noEscape]
  simp only [Result.andThen]
  rw [Oper.upon_value]
  go_wp2
  rw [Lib.run_from_unsafe w ⟨b, 0, none⟩ Tryz.underlying261 Tryz.underlying199 hj hsh Go.Proofs.Tryz.Builder_Extra_169.liesBuilder]
  simp only [Result.andThen]
  rw [Oper.upon_value]
  go_wp2
  go_end0
  exact ⟨rfl, rfl⟩
set_option maxHeartbeats 2000000 in
set_option maxRecDepth 100000 in
/-- WriteString to a new builder. -/
theorem bwrite_new (B b : Nat) (s : ByteArray) (w : World) (hB : B ≤ b) (hbk : w.heap[b]? = some (.cells #[.pointer none, .slice none 0 0] 202 (0, 0))) (hlen : s.size ≤ 140737488355328) (hBw : B ≤ w.heap.size) :
    Calls Tryz.prog 220 #[.pointer (some ⟨b, 0, none⟩), .string s] w fun e w' => e = .returned (.tuple #[.int .i64 s.size, .nilIface]) ∧ (Lib.BuilderAt 202 5 B b (.pointer (some ⟨b, 0, none⟩)) (Lib.strCells s) w' ∧ Below B w w') := by
  obtain ⟨i0, hi, hz0, hz1, hz2⟩ := info_parts Go.Proofs.Tryz.Builder_Extra_169.infoByte
  have hlt : b < w.heap.size := by
    rcases Nat.lt_or_ge b w.heap.size with h' | h'
    · exact h'
    · simp [Array.getElem?_eq_none h'] at hbk
  have e0 : w.cell? ⟨b, 0, none⟩ = some (.pointer none) := by simp [World.cell?, hbk]
  have ef : w.frozen? ⟨b, 0, none⟩ = false := Lib.frozen_of_heap hbk 0
  have es : w.shape? b = some (202, 2) := by simp [World.shape?, hbk]
  obtain ⟨w1, hw1⟩ : ∃ w1, w1 = w.setCell ⟨b, 0, none⟩ (.pointer (some ⟨b, 0, none⟩)) := ⟨_, rfl⟩
  have HCK : Hid (Calls Tryz.prog 270 #[.pointer (some ⟨b, 0, none⟩)] w fun e w' => e = .returned (.tuple #[]) ∧ w' = w1) := Lib.hid (by rw [hw1]; exact bcheck_new b w e0 es ef)
  obtain ⟨v, hv⟩ : ∃ v : Value, v = .slice none 0 0 := ⟨_, rfl⟩
  have HOW : Hid (w1.ownsRow B 5 1 v 0 []) := Lib.hid (by rw [hv]; exact World.ownsRow_nil _ _ _ _)
  have HNB : Hid (v.ownBlock = none) := Lib.hid (by rw [hv]; rfl)
  have hb1 : w1.heap[b]? = some (.cells #[.pointer (some ⟨b, 0, none⟩), v] 202 (0, 0)) := by
    rw [hw1, hv]
    have := heap_setCell_same w b 0 _ _ (.pointer (some ⟨b, 0, none⟩)) hbk
    simpa using this
  have hk1 : Below B w w1 := by rw [hw1]; exact (Below.refl B w).setCell (p := ⟨b, 0, none⟩) hB _
  have hs1 : w1.heap.size = w.heap.size := by rw [hw1]; simp
  have c0 : w1.cell? ⟨b, 0, none⟩ = some (.pointer (some ⟨b, 0, none⟩)) := by rw [Lib.cell_of_heap hb1]; rfl
  have c1 : w1.cell? ⟨b, 1, none⟩ = some v := by rw [Lib.cell_of_heap hb1]; rfl
  have HB1 := Lib.hid hb1
  have HK1 := Lib.hid hk1
  have HI := Lib.hid hi
  have HZ0 := Lib.hid hz0
  have HZ1 := Lib.hid hz1
  have HZ2 := Lib.hid hz2
  clear hw1 hv hbk e0 ef es hb1 hk1 hi hz0 hz1 hz2
  go_enter Tryz.func220, Tryz.ntmps220
  go_wp2_with (go_at_call 270; refine HCK.out.mono ?_)
  rintro e w1' ⟨rfl, rfl⟩
  go_wp2_with (at_builtin; refine Lib.wpList_append_own_string _ rfl _ _ 200 9 rfl B 5 i0 Tryz.underlying200 Tryz.underlying9 HI.out HZ0.out HZ1.out HZ2.out v 0 [] rfl HOW.out s rfl ?c3 ?c4 ?c5 ?_)
  case c3 => unfold maxLen; omega
  case c4 => omega
  case c5 => omega
  intro v' w2 hown' hgrow _
  have hb2 : w2.heap[b]? = some (.cells #[.pointer (some ⟨b, 0, none⟩), v] 202 (0, 0)) := by
    rw [hgrow.block b (by rw [hs1]; exact hlt) (fun e => by rw [HNB.out] at e; cases e)]
    exact HB1.out
  have d0 : w2.cell? ⟨b, 0, none⟩ = some (.pointer (some ⟨b, 0, none⟩)) := by rw [Lib.cell_of_heap hb2]; rfl
  have d1 : w2.cell? ⟨b, 1, none⟩ = some v := by rw [Lib.cell_of_heap hb2]; rfl
  have f1 : w2.frozen? ⟨b, 1, none⟩ = false := Lib.frozen_of_heap hb2 1
  obtain ⟨ao, n', cap, rfl⟩ : ∃ ao n' cap, v' = .slice ao n' cap := by
    rcases hown'.2 with ⟨hv, _⟩ | ⟨g, cap, cur, hv, _⟩
    · exact ⟨_, _, _, hv⟩
    · exact ⟨_, _, _, hv⟩
  go_wp2
  go_ret2
  refine ⟨rfl, ?_, ?_⟩
  · exact Lib.BuilderAt.put (T := 202) (e := 5) hB hb2 (bs' := Lib.strCells s) (by simpa [Lib.strCells_length] using hown') Go.Proofs.Tryz.Builder_Extra_169.neB5
  · exact (HK1.out.grown hgrow (by rw [hs1]; exact hBw) (fun k hk => by rw [HNB.out] at hk; cases hk)).setCell (p := ⟨b, 1, none⟩) hB _
end Go.Proofs.YtbkchheikkbebaaGreatDoor

/-
  Walk: natural.nine.
-/
namespace Go.Proofs.YtbkchheikkbebaaGreatDoor
open Go.RowKit

/-- The digits so far, from behind. -/
def arrK (r k : Nat) : List Value := (List.range 9).map fun j => .int .u8 (((if 9 ≤ j + k then 48 + r / 10 ^ (8 - j) % 10 else 0 : Nat)) : Int)
theorem arrK_step (r k : Nat) (hk : k < 9) : (arrK r k).set (8 - k) (.int .u8 ((48 + r / 10 ^ k % 10 : Nat) : Int)) = arrK r (k + 1) := by
  match k, hk with
  | 0, _ => rfl
  | 1, _ => rfl
  | 2, _ => rfl
  | 3, _ => rfl
  | 4, _ => rfl
  | 5, _ => rfl
  | 6, _ => rfl
  | 7, _ => rfl
  | 8, _ => rfl
def nineB (r : Nat) : List UInt8 := (List.range 9).map fun j => UInt8.ofNat (48 + r / 10 ^ (8 - j) % 10)
theorem nineB_len (r : Nat) : (nineB r).length = 9 := by unfold nineB; simp
theorem nineB_get (r j : Nat) (h : j < (nineB r).length) : (((nineB r)[j].toNat : Nat) : Int) = ((48 + r / 10 ^ (8 - j) % 10 : Nat) : Int) := by
  rw [nineB_len] at h
  have : r / 10 ^ (8 - j) % 10 < 10 := Nat.mod_lt _ (by decide)
  simp [nineB]
  omega
theorem arrK_get (r j : Nat) (h : j < 9) : (arrK r 9)[j]'(by simp [arrK]; omega) = .int .u8 ((48 + r / 10 ^ (8 - j) % 10 : Nat) : Int) := by
  simp [arrK]
set_option maxRecDepth 100000 in
set_option maxHeartbeats 4000000 in
theorem nine_any (r : Nat) (hr : r < 4294967296) (w : World) : Calls Tryz.prog 219 #[.int .u32 r] w fun e w' => e = .returned (.string ⟨(nineB r).toArray⟩) ∧ Kept w w' := by
  obtain ⟨w1, hw1⟩ : ∃ w1, w1 = w.alloc (.cells #[.int .u8 0, .int .u8 0, .int .u8 0, .int .u8 0, .int .u8 0, .int .u8 0, .int .u8 0, .int .u8 0, .int .u8 0] 237) := ⟨_, rfl⟩
  have HR1 : Hid (RowAt w1 w.heap.size 237 (arrK r 0)) := Lib.hid (by rw [hw1]; exact RowAt.made w #[.int .u8 0, .int .u8 0, .int .u8 0, .int .u8 0, .int .u8 0, .int .u8 0, .int .u8 0, .int .u8 0, .int .u8 0] 237)
  have HK1 : Hid (Kept w w1) := Lib.hid (by rw [hw1]; exact (Kept.refl w).alloc _)
  have HW1 := Lib.hid hw1
  have HCV : Hid (∀ W, RowAt W w.heap.size 237 (arrK r 9) → (convert 200 9 (.slice (some ⟨w.heap.size, 0, none⟩) 9 9)).run Tryz.prog W = .ok (.string ⟨(nineB r).toArray⟩) W) := Lib.hid fun W hW => by
    have h := run_convert_bytes_back (P := Tryz.prog) W 200 9 5 ⟨w.heap.size, 0, none⟩ 9 (nineB r) Tryz.underlying200 Tryz.underlying5 Tryz.underlying9 (fun j hj => by
      have hj9 : j < 9 := by rw [nineB_len] at hj; exact hj
      have h1 := hW.cell (i := j) (by simp [arrK]; omega)
      rw [arrK_get r j hj9, ← nineB_get r j hj] at h1
      rw [show ({ block := w.heap.size, off := 0 } : Addr).add j = ⟨w.heap.size, j, none⟩ by unfold Addr.add; split <;> simp_all]
      exact h1)
    rw [nineB_len] at h
    exact h
  clear hw1
  go_enter Tryz.func219, Tryz.ntmps219
  go_wp2_with fail
  try rw [← HW1.out]
  go_loopg [0, 4] 9 (fun kx s0 s4 wr => ∃ k : Nat, k ≤ 9 ∧ s4 = .int .i64 (8 - (k : Int)) ∧ 9 - k ≤ kx ∧ s0 = .int .u32 (r / 10 ^ k : Nat) ∧ Hid (RowAt wr w.heap.size 237 (arrK r k)) ∧ Hid (Kept w wr))
  case atStart => exact ⟨0, Nat.zero_le _, rfl, by omega, by simp, HR1, HK1⟩
  case round =>
    obtain ⟨k, hk, rfl, hkx, rfl, HR, HK⟩ := hrel
    by_cases hlt : k < 9
    · have hkn : 0 ≤ (8 - (k : Int)) := by omega
      have HST := Lib.hid (arrK_step r k hlt)
      have hd : r / 10 ^ k < 4294967296 := Nat.lt_of_le_of_lt (Nat.div_le_self _ _) hr
      have HDD : Hid (r / 10 ^ (k + 1) = r / 10 ^ k / 10) := Lib.hid (by rw [Nat.pow_succ, Nat.div_div_eq_div_mul])
      obtain ⟨m, hm⟩ : ∃ m, m = r / 10 ^ k := ⟨_, rfl⟩
      rw [← hm] at hd HST HDD ⊢
      obtain ⟨d, hdd⟩ : ∃ d, d = m % 10 := ⟨_, rfl⟩
      have hd10 : d < 10 := by omega
      have f0 := HR.out.free (8 - k)
      have HLT : Hid (8 - k < (arrK r k).length) := Lib.hid (by simp [arrK]; omega)
      have hc := HR.out.cell (i := 8 - k) HLT.out
      have hix : (8 - (k : Int)).toNat = 8 - k := by omega
      have hi9 : (8 - (k : Int)) < 9 := by omega
      have p1 : Int.tmod (m : Int) 10 = (d : Int) := by rw [hdd]; exact Int.ofNat_tmod m 10
      have p2 : IntKind.u32.wrap (48 + (d : Int)) = ((48 + d : Nat) : Int) := by rw [IntKind.wrap_u32]; omega
      have p3 : IntKind.u8.wrap ((48 + d : Nat) : Int) = ((48 + d : Nat) : Int) := by rw [IntKind.wrap_u8]; omega
      clear hm
      go_wp2
      go_roundg (9 - (k + 1))
      case measure => omega
      case rel =>
        refine ⟨k + 1, by omega, by go_num, Nat.le_refl _, ?_, ?_, ?_⟩
        · rw [HDD.out]; simp
        · refine Lib.hid ?_
          have h := HR.out.store (8 - k) (.int .u8 ((48 + m % 10 : Nat) : Int))
          rw [HST.out] at h
          simpa using h
        · exact Lib.hid (HK.out.store (Nat.le_refl _) _ _)
    · have hke : k = 9 := by omega
      have hkn : ¬ 0 ≤ (8 - (k : Int)) := by omega
      rw [hke] at HR
      have hcv := HCV.out wr HR.out
      clear hke
      go_wp2
      go_ret
      exact ⟨rfl, HK.out⟩
end Go.Proofs.YtbkchheikkbebaaGreatDoor

/-
  Walk: natural.Text of a number of nine digits at most.
-/
namespace Go.Proofs.YtbkchheikkbebaaGreatDoor
open Go.RowKit

theorem info_str : (Tryz.prog.info? 9).map (fun i => (i.zero, i.size, i.bytes)) = some (some (.string .empty), 1, 16) := by kernel_rfl
theorem own_first {w : World} {B : Nat} {e : TypeId} {v y : Value} (h : w.ownsRow B e 1 v 1 [y]) : ∃ g cap, v = .slice (some ⟨g, 0, none⟩) 1 cap ∧ w.cell? ⟨g, 0, none⟩ = some y := by
  obtain ⟨_, h2⟩ := h
  rcases h2 with ⟨_, h⟩ | ⟨g, cap, cur, rfl, h5, h6, h7, h8, h9, h10⟩
  · cases h
  · refine ⟨g, cap, rfl, ?_⟩
    have e1 : (cur.toList.take 1)[0]? = some y := by
      have := congrArg (fun l => l[0]?) h10
      simpa using this
    simp only [World.cell?, h6]
    simpa using e1
theorem nw_one {n : Nat} (h0 : n ≠ 0) (h : n < 4294967296) : nw n = [n] := by
  rw [nw_pos h0, Nat.mod_eq_of_lt h, Nat.div_eq_of_lt h, nw_zero]
set_option maxRecDepth 100000 in
set_option maxHeartbeats 8000000 in
theorem ntext_any (v : Value) (xs : List Nat) (n : Nat) (l : List UInt8) (w : World) (hv : WdsAt w v xs) (hn : nv xs = n) (h0 : n ≠ 0) (h9 : n < 1000000000) (hl : Lib.trimLeftB (nineB n) 48 = l) (hne : l ≠ []) :
    Calls Tryz.prog 159 #[v] w fun e w' => e = .returned (.string ⟨l.toArray⟩) ∧ Kept w w' := by
  have HT : Hid (Calls Tryz.prog 188 #[v] w fun e w' => (∃ v', e = .returned v' ∧ WdsAt w' v' [n]) ∧ Kept w w') := Lib.hid (by have h := ntrim_any v xs w hv; rw [hn, nw_one h0 (by omega)] at h; exact h)
  have HSM : Hid (∀ W va, WdsAt W va [n] → Calls Tryz.prog 218 #[va, .int .u32 (1000000000 : Nat)] W fun e w' => (∃ v', e = .returned (.tuple #[v', .int .u32 n]) ∧ WdsAt w' v' []) ∧ Kept W w') := Lib.hid fun W va h => by
    have h := small_any va [n] 1000000000 W h (by omega) (by omega)
    have e1 : nv [n] = n := by simp [nv]
    rw [e1, Nat.mod_eq_of_lt h9, Nat.div_eq_of_lt h9, nw_zero] at h
    exact h
  have HNI := Lib.hid (fun W => nine_any n (by omega) W)
  obtain ⟨N9, hN9⟩ : ∃ N9, N9 = nineB n := ⟨_, rfl⟩
  have HLEN : Hid (N9.length = 9) := Lib.hid (by rw [hN9]; exact nineB_len n)
  have HN9 : Hid (N9 ≠ []) := Lib.hid fun h => by
    have h2 := HLEN.out
    rw [h] at h2
    simp at h2
  rw [← hN9] at HNI hl
  have HTR : Hid (∀ W, Calls Tryz.prog 221 #[.string ⟨N9.toArray⟩, .string ⟨#[48]⟩] W fun e w' => e = .returned (.string ⟨l.toArray⟩) ∧ w' = W) := Lib.hid fun W => by
    have h := Go.Proofs.Tryz.strings_TrimLeft_one ⟨N9.toArray⟩ 48 (by decide) W
    rw [show (⟨N9.toArray⟩ : ByteArray).data.toList = N9 from rfl, hl] at h
    exact h
  have HNE : Hid ((⟨l.toArray⟩ : ByteArray) ≠ ⟨#[]⟩) := Lib.hid fun h => hne (by
    have := congrArg (fun b => b.data.toList) h
    simpa using this)
  have hie : l.isEmpty = false := by cases l with
    | nil => exact absurd rfl hne
    | cons _ _ => rfl
  have HV := Lib.hid hv
  obtain ⟨av, cv, rfl⟩ := hv.shape
  clear hv hn h9 hl hne hN9
  go_enter Tryz.func159, Tryz.ntmps159
  go_wp2_with fail
  refine HT.out.mono ?_
  rintro e w2 ⟨⟨v2, rfl, hv2⟩, hk2⟩
  have HV2 := Lib.hid hv2
  have HK2 := Lib.hid hk2
  clear hv2 hk2
  go_wp2_with fail
  go_loopg [0, 3] 1 (fun kx s0 s3 wr => ((1 ≤ kx ∧ s3 = .slice none 0 0 ∧ Hid (WdsAt wr s0 [n])) ∨ (Hid (WdsAt wr s0 []) ∧ Hid (wr.ownsRow w2.heap.size 9 1 s3 1 [.string ⟨N9.toArray⟩]))) ∧ Hid (Kept w2 wr))
  case atStart => exact ⟨.inl ⟨Nat.le_refl _, rfl, HV2⟩, Lib.hid (Kept.refl _)⟩
  case round =>
    obtain ⟨hor, HK⟩ := hrel
    rcases hor with ⟨hkx, rfl, HA⟩ | ⟨HA, HO⟩
    · obtain ⟨a0, c0, rfl⟩ := HA.out.shape
      simp only [List.length_singleton] at HA ⊢
      go_wp2_with (first
        | (go_at_call 218; refine (HSM.out _ _ HA.out).mono ?_; rintro e w3 ⟨⟨v3, rfl, hv3⟩, hk3⟩; have HV3 := Lib.hid hv3; have HK3 := Lib.hid hk3; clear hv3 hk3)
        | (go_at_call 219; refine (HNI.out _).mono ?_; rintro e w4 ⟨rfl, hk4⟩; have HK4 := Lib.hid hk4; clear hk4)
        | (at_builtin; refine app_one 195 9 _ 16 info_str Tryz.underlying195 rfl rfl _ _ rfl w2.heap.size _ [] rfl (World.ownsRow_nil _ _ _ _) _ (.string ⟨N9.toArray⟩) rfl (by simp) rfl (by simp) (by simp [maxLen]) (by have := HK.out.size; have := HK3.out.size; have := HK4.out.size; simp; omega) ?_; intro v' w' h5 _ h6; have H5 := Lib.hid h5; have H6 := Lib.hid h6; clear h5 h6))
      go_roundg 0
      case measure => omega
      case rel =>
        have hk := ((HK.out.trans HK3.out).trans HK4.out).alloc (.cells #[.string ⟨N9.toArray⟩] 9)
        refine ⟨.inr ⟨Lib.hid ?_, Lib.hid (by simpa using H5.out)⟩, Lib.hid (hk.app H6.out)⟩
        obtain ⟨a9, c9, i1, i2, i3, i4, _⟩ := HV3.out
        exact ⟨a9, c9, i1, i2, i3, i4, fun i hi => by simp at hi⟩
    · obtain ⟨a0, c0, rfl⟩ := HA.out.shape
      simp only [List.length_nil] at HA ⊢
      obtain ⟨g3, cap3, rfl, hc3⟩ := own_first HO.out
      have HC3 := Lib.hid hc3
      clear hc3
      go_wp2_with fail
      obtain ⟨w4, hw4⟩ : ∃ w4, w4 = wr.alloc (.cells #[.pointer none, .slice none 0 0] 202) := ⟨_, rfl⟩
      have HBK4 : Hid (w4.heap[wr.heap.size]? = some (.cells #[.pointer none, .slice none 0 0] 202 (0, 0))) := Lib.hid (by rw [hw4]; exact heap_alloc_new wr _)
      have HKR4 : Hid (Kept wr w4) := Lib.hid (by rw [hw4]; exact (Kept.refl wr).alloc _)
      try rw [← hw4]
      clear hw4
      have HSG : Hid (∀ W, Lib.BuilderAt 202 5 wr.heap.size wr.heap.size (.pointer (some ⟨wr.heap.size, 0, none⟩)) (Lib.byteCells N9) W → Kept wr W → Calls Tryz.prog 222 #[.pointer (some ⟨wr.heap.size, 0, none⟩)] W fun e w' => e = .returned (.string ⟨N9.toArray⟩) ∧ Kept wr w') := Lib.hid fun W hb hk => (Go.Proofs.Tryz.Builder_String wr.heap.size wr.heap.size N9 W (.inr hb) HN9.out).mono fun e w' ⟨h1, h2⟩ => ⟨h1, hk.app h2⟩
      go_loopg [7] 1 (fun kx s7 W => ((1 ≤ kx ∧ s7 = .int .i64 0 ∧ Hid (W.heap[wr.heap.size]? = some (.cells #[.pointer none, .slice none 0 0] 202 (0, 0)))) ∨ (s7 = .int .i64 (-1) ∧ Hid (Lib.BuilderAt 202 5 wr.heap.size wr.heap.size (.pointer (some ⟨wr.heap.size, 0, none⟩)) (Lib.byteCells N9) W))) ∧ Hid (Kept wr W))
      case atStart => exact ⟨.inl ⟨Nat.le_refl _, rfl, HBK4⟩, HKR4⟩
      case round =>
        obtain ⟨hor, HKW⟩ := hrel
        rcases hor with ⟨hkx, rfl, HB⟩ | ⟨rfl, HB⟩
        · have hce := HKW.out.cell HC3.out
          go_wp2_with (go_at_call 220; refine (bwrite_new _ _ ⟨N9.toArray⟩ _ (Nat.le_refl _) HB.out (by show N9.toArray.size ≤ _; rw [List.size_toArray, HLEN.out]; omega) HKW.out.size).mono ?_; rintro e w5 ⟨rfl, hb5, hk5⟩; have HB5 := Lib.hid hb5; have HK5 := Lib.hid hk5; clear hb5 hk5)
          go_roundg 0
          case measure => omega
          case rel => exact ⟨.inr ⟨by go_num, Lib.hid HB5.out⟩, Lib.hid (HKW.out.app HK5.out)⟩
        · go_wp2_with (first
            | (go_at_call 222; refine (HSG.out _ HB.out HKW.out).mono ?_; rintro e w6 ⟨rfl, hk6⟩; have HK6 := Lib.hid hk6; clear hk6)
            | (go_at_call 221; refine (HTR.out _).mono ?_; rintro e w7 ⟨rfl, rfl⟩))
          go_ret
          exact ⟨rfl, HK2.out.trans (HK.out.trans HK6.out)⟩
end Go.Proofs.YtbkchheikkbebaaGreatDoor

/-
  Walk: rational.Text of a short positive fraction; rational.Make.
-/
namespace Go.Proofs.YtbkchheikkbebaaGreatDoor
open Go.RowKit

theorem parts_can {q : Rat} (h : q.num ≠ 0) : partsR (canR q) = (decide (q.num < 0), nw q.num.natAbs, nw q.den) := by
  have hv := canR_valid q
  have hc : canR q = ⟨decide (q.num < 0), nw q.num.natAbs, nw q.den⟩ := by unfold canR; rw [if_neg h]
  unfold partsR
  rw [if_pos]
  · rw [hc]
  · refine ⟨hv, ?_⟩
    rw [hc]
    exact fun e => absurd (nw_eq_nil.1 e) (by omega)
set_option maxRecDepth 100000 in
set_option maxHeartbeats 4000000 in
theorem rtext_frac (v : Value) (q : Rat) (a b : Nat) (la lb s : List UInt8) (w : World) (hv : RatAt w v (canR q)) (hq : q.num = (a : Int)) (hd : q.den = b) (ha0 : a ≠ 0) (ha9 : a < 1000000000) (hb1 : 1 < b) (hb9 : b < 1000000000)
    (hla : Lib.trimLeftB (nineB a) 48 = la) (hlb : Lib.trimLeftB (nineB b) 48 = lb) (hna : la ≠ []) (hnb : lb ≠ []) (hs : la ++ 47 :: lb = s) :
    Calls Tryz.prog 83 #[v] w fun e w' => e = .returned (.string ⟨s.toArray⟩) ∧ Kept w w' := by
  have hp : partsR (canR q) = (false, [a], [b]) := by
    rw [parts_can (by rw [hq]; omega), hq, hd, Int.natAbs_natCast, nw_one ha0 (by omega), nw_one (n := b) (by omega) (by omega)]
    simp
  have HPA : Hid (∀ W, Kept w W → Calls Tryz.prog 116 #[v] W fun e w' => (∃ u1 u2, e = .returned (.tuple #[.bool false, u1, u2]) ∧ WdsAt w' u1 [a] ∧ WdsAt w' u2 [b]) ∧ Kept W w') := Lib.hid fun W hk => by
    have hsh : (canR q).Short 1 := by
      have hc : canR q = ⟨decide (q.num < 0), nw q.num.natAbs, nw q.den⟩ := by unfold canR; rw [if_neg (by rw [hq]; omega)]
      rw [hc, hq, hd, Int.natAbs_natCast, nw_one ha0 (by omega), nw_one (n := b) (by omega) (by omega)]
      exact ⟨Nat.le_refl _, Nat.le_refl _⟩
    have h := rparts_any v (canR q) W (hv.kept hk) ⟨Nat.le_trans hsh.1 (by omega), Nat.le_trans hsh.2 (by omega)⟩
    rw [hp] at h
    exact h
  have HTA := Lib.hid (fun W u (h : WdsAt W u [a]) => ntext_any u [a] a la W h (by simp [nv]) ha0 ha9 hla hna)
  have HTB := Lib.hid (fun W u (h : WdsAt W u [b]) => ntext_any u [b] b lb W h (by simp [nv]) (by omega) hb9 hlb hnb)
  have HCM : Hid (∀ W u1 u2, WdsAt W u1 [b] → WdsAt W u2 [1] → Calls Tryz.prog 118 #[u1, u2] W fun e w' => e = .returned (.int .i64 1) ∧ Kept W w') := Lib.hid fun W u1 u2 h1 h2 => by
    have h := ncmp_any u1 u2 [b] [1] W h1 h2
    have e1 : nv [b] = b := by simp [nv]
    have e2 : nv [1] = 1 := rfl
    rw [e1, e2] at h
    have e3 : cmpN b 1 = 1 := by unfold cmpN; rw [if_neg (by omega), if_pos (by omega)]
    rwa [e3] at h
  have HS : Hid ((⟨la.toArray⟩ : ByteArray) ++ ((⟨#[47]⟩ : ByteArray) ++ ⟨lb.toArray⟩) = ⟨s.toArray⟩) := Lib.hid (by
    apply ByteArray.ext
    rw [ByteArray.data_append, ByteArray.data_append]
    apply Array.toList_inj.1
    simp [← hs])
  have hl9 : la.length ≤ 9 := by rw [← hla, ← nineB_len a]; exact (List.dropWhile_sublist _).length_le
  have hl8 : lb.length ≤ 9 := by rw [← hlb, ← nineB_len b]; exact (List.dropWhile_sublist _).length_le
  have hz1 : ¬ 9223372036854775807 < 1 + lb.length := by omega
  have hz2 : ¬ 9223372036854775807 < la.length + (1 + lb.length) := by omega
  obtain ⟨u1, u2, rfl, h1, h2⟩ := hv
  obtain ⟨a1, c1, rfl⟩ := h1.shape
  obtain ⟨a2, c2, rfl⟩ := h2.shape
  generalize (canR q).num.length = n1 at *
  generalize (canR q).den.length = n2 at *
  generalize (canR q).neg = b0 at *
  clear h1 h2 hp hq hd ha0 ha9 hb1 hb9 hla hlb hna hnb hs hl9 hl8
  go_enter Tryz.func83, Tryz.ntmps83
  go_wp2_with (first
    | (go_at_call 116; refine (HPA.out _ ((Kept.refl w).alloc _)).mono ?_; rintro e w2 ⟨⟨u1, u2, rfl, hu1, hu2⟩, hk2⟩; have HU1 := Lib.hid hu1; have HU2 := Lib.hid hu2; have HK2 := Lib.hid (((Kept.refl w).alloc _).trans hk2); clear hu1 hu2 hk2)
    | (go_at_call 159; (with_reducible refine (HTA.out _ _ HU1.out).mono ?_); rintro e w3 ⟨rfl, hk3⟩; have HU3 := Lib.hid (HU2.out.kept hk3); have HK3 := Lib.hid (HK2.out.trans hk3); clear hk3)
    | (go_at_call 126; refine (rone_any _).mono ?_; rintro e w4 ⟨⟨u4, rfl, hu4⟩, hk4⟩; have HU4 := Lib.hid hu4; have HU5 := Lib.hid (HU3.out.kept hk4); have HK4 := Lib.hid (HK3.out.trans hk4); clear hu4 hk4)
    | (go_at_call 118; refine (HCM.out _ _ _ HU5.out HU4.out).mono ?_; rintro e w5 ⟨rfl, hk5⟩; have HU6 := Lib.hid (HU5.out.kept hk5); have HK5 := Lib.hid (HK4.out.trans hk5); clear hk5)
    | (go_at_call 159; refine (HTB.out _ _ HU6.out).mono ?_; rintro e w6 ⟨rfl, hk6⟩; have HK6 := Lib.hid (HK5.out.trans hk6); clear hk6))
  go_ret
  exact ⟨by rw [HS.out]; rfl, HK6.out⟩
set_option maxRecDepth 100000 in
set_option maxHeartbeats 4000000 in
theorem rmake_any (n d : Nat) (w : World) (hn : n < 9223372036854775808) (hd : d < 9223372036854775808) (hd0 : d ≠ 0) : Calls Tryz.prog 82 #[.int .i64 n, .int .i64 d] w fun e w' => (∃ v', e = .returned (.tuple #[v', .nilIface]) ∧ RatAt w' v' (canR (mkRat n d))) ∧ Kept w w' := by
  have HS1 : Hid (∀ W, Calls Tryz.prog 125 #[.int .i64 n] W fun e w' => (∃ v', e = .returned v' ∧ WdsAt w' v' (nw n)) ∧ Kept W w') := Lib.hid fun W => by have h := rsz_any n W (by omega) (by omega); rw [Int.natAbs_natCast] at h; exact h
  have HS2 : Hid (∀ W, Calls Tryz.prog 125 #[.int .i64 d] W fun e w' => (∃ v', e = .returned v' ∧ WdsAt w' v' (nw d)) ∧ Kept W w') := Lib.hid fun W => by have h := rsz_any d W (by omega) (by omega); rw [Int.natAbs_natCast] at h; exact h
  obtain ⟨R, hR⟩ : ∃ R, R = canR (mkRat n d) := ⟨_, rfl⟩
  have HFO : Hid (∀ W u1 u2, WdsAt W u1 (nw n) → WdsAt W u2 (nw d) → Calls Tryz.prog 120 #[.bool false, u1, u2] W fun e w' => (∃ v, e = .returned v ∧ RatAt w' v R) ∧ Kept W w') := Lib.hid fun W u1 u2 k1 k2 => by
    have hl1 : (nw n).length ≤ 2 := nw_len_lt.2 (by rw [show (4294967296 : Nat) ^ 2 = 18446744073709551616 by rfl]; omega)
    have hl2 : (nw d).length ≤ 2 := nw_len_lt.2 (by rw [show (4294967296 : Nat) ^ 2 = 18446744073709551616 by rfl]; omega)
    have h := rform_any false u1 u2 _ _ W k1 k2 (by omega) (by omega) (by rw [nv_nw]; exact hd0)
    rw [nv_nw, nv_nw, form_can _ _ _ hd0, show sg false n = (n : Int) from rfl, ← hR] at h
    exact h
  rw [← hR]
  generalize nw n = X at *
  generalize nw d = Y at *
  obtain ⟨w2, hw2⟩ : ∃ w2, w2 = w.alloc (.cells #[.bool false, .slice none 0 0, .slice none 0 0] 39) := ⟨_, rfl⟩
  have HR : Hid (RowAt w2 w.heap.size 39 [.bool false, .slice none 0 0, .slice none 0 0]) := Lib.hid (by rw [hw2]; exact RowAt.made w #[.bool false, .slice none 0 0, .slice none 0 0] 39)
  have HFX : Hid (FixAt w2 w.heap.size [.bool false, .slice none 0 0, .slice none 0 0]) := Lib.hid (by rw [hw2]; exact FixAt.made w #[.bool false, .slice none 0 0, .slice none 0 0] 39)
  have HK0 : Hid (Kept w w2) := Lib.hid (by rw [hw2]; exact (Kept.refl w).alloc _)
  have HW2 := Lib.hid hw2
  have hn0 : ¬ (n : Int) < 0 := by omega
  have hdn : ¬ (d : Int) < 0 := by omega
  have hdz : ((d : Int) == 0) = false := by simp; omega
  have hdz2 : ¬ (d : Int) = 0 := by omega
  clear hw2 hR hn hd hd0
  go_enter Tryz.func82, Tryz.ntmps82
  go_wp2_with fail
  rw [← HW2.out]
  refine (HS1.out _).mono ?_
  rintro e w3 ⟨⟨v3, rfl, hv3⟩, hk3⟩
  have HV3 := Lib.hid hv3
  have HR3 := Lib.hid (HR.out.kept hk3)
  have HF3 := Lib.hid (HFX.out.kept hk3)
  have HK3 := Lib.hid (HK0.out.trans hk3)
  clear hv3 hk3
  go_wp2_with fail
  refine (HS2.out _).mono ?_
  rintro e w4 ⟨⟨v4, rfl, hv4⟩, hk4⟩
  have HV4 := Lib.hid hv4
  have HV3' := Lib.hid (HV3.out.kept hk4)
  have HR4 := Lib.hid (HR3.out.kept hk4)
  have HF4 := Lib.hid (HF3.out.kept hk4)
  have HK4 := Lib.hid (HK3.out.trans hk4)
  clear hv4 hk4
  go_wp2_with fail
  refine (HFO.out _ _ _ HV3'.out HV4.out).mono ?_
  rintro e w10 ⟨⟨v10, rfl, hv10⟩, hk10⟩
  have hr10 := HR4.out.kept hk10
  have HF10 := Lib.hid (HF4.out.kept hk10)
  have HK10 := Lib.hid (HK4.out.trans hk10)
  obtain ⟨u7, u8, rfl, k7, k8⟩ := hv10
  obtain ⟨a7, c7, rfl⟩ := k7.shape
  obtain ⟨a8, c8, rfl⟩ := k8.shape
  obtain ⟨y0, y1, y2, hra⟩ := rat_stored hr10 HF10.out k7 k8
  have g0 := hr10.cell (i := 0) (by simp)
  have g1 := hr10.cell (i := 1) (by simp)
  have g2 := hr10.cell (i := 2) (by simp)
  have f0 := hr10.free 0
  have f1 := hr10.free 1
  have f2 := hr10.free 2
  have HRA := Lib.hid hra
  have Y0 := Lib.hid y0
  have Y1 := Lib.hid y1
  have Y2 := Lib.hid y2
  clear hra y0 y1 y2 k7 k8 hr10 hk10
  generalize R.num.length = n7 at *
  generalize R.den.length = n8 at *
  go_wp2
  refine bodyPost_ret (v := .tuple #[.agg #[.bool R.neg, .slice a7 n7 c7, .slice a8 n8 c8], .nilIface]) ?_ rfl ⟨⟨_, rfl, HRA.out⟩, ?_⟩
  · simp [results, Tryz.results82, go_sem, Y0.out, Y1.out, Y2.out]
  · exact ((HK10.out.store (by omega) _ _).store (by omega) _ _).store (by omega) _ _
end Go.Proofs.YtbkchheikkbebaaGreatDoor

/-
  Plain: chances; the example of the chapters 38 to 40.
-/
namespace Go.Proofs.YtbkchheikkbebaaGreatDoor
open Go.RowKit

/-- What Prob answers: the error's number, the sum. -/
def prbT (L : List (Nat × Nat)) (ps : List Rw) : Nat × Rat :=
  if L.any (fun c => decide ((ps.length : Int) ≤ gtK (c.1 ||| c.2))) = true then (11, 0) else if badR ps = true then (3, 0) else (0, sumWs ps L L.length)
def prbD (L0 : List (Int × Int)) (ps : List Rw) : Nat × Rat := if chkD L0 ≠ 0 then (chkD L0, 0) else prbT (L0.map natC) ps
theorem prob_can {q : Rat} (h0 : 0 ≤ q) (h1 : q ≤ 1) : probR (canR q) = true := by
  rw [prob_sgn (canR_ok q), canR_valid, ratOf_can]
  have s1 : 0 ≤ sgnR q := by
    unfold sgnR
    by_cases h : q = 0
    · rw [if_pos h]; decide
    · rw [if_neg h, if_neg (by grind)]; decide
  have s2 : sgnR (q - ((1 : Int) : Rat)) ≤ 0 := by
    have e : ((1 : Int) : Rat) = 1 := rfl
    rw [e]
    unfold sgnR
    by_cases h : q - 1 = 0
    · rw [if_pos h]; decide
    · rw [if_neg h, if_pos (by grind)]; decide
  rw [decide_eq_true s1, decide_eq_true s2]; rfl
theorem unit_prob {r : Rw} (hw : r.Ok) (h : probR r = true) : 0 ≤ ratOf r ∧ ratOf r ≤ 1 := by
  rw [prob_sgn hw, Bool.and_eq_true, Bool.and_eq_true, decide_eq_true_eq, decide_eq_true_eq] at h
  obtain ⟨_, h1, h2⟩ := h
  have e : ((1 : Int) : Rat) = 1 := rfl
  rw [e] at h2
  unfold sgnR at h1 h2
  constructor
  · split at h1
    · grind
    · split at h1 <;> first | grind | omega
  · split at h2
    · grind
    · split at h2 <;> first | grind | omega
theorem qOf_unit {ps : List Rw} (hok : ∀ r ∈ ps, r.Ok) (hb : badR ps = false) : ∀ i, i < ps.length → 0 ≤ qOf ps i ∧ qOf ps i ≤ 1 := fun i hi => by
  have e : ps.getD i default = ps[i] := by simp [List.getD_eq_getElem?_getD, hi]
  unfold qOf
  rw [e]
  refine unit_prob (hok _ (List.getElem_mem hi)) ?_
  unfold badR at hb
  rw [List.any_eq_false] at hb
  have := hb ps[i] (List.getElem_mem hi)
  simpa using this
theorem can_short1 {q : Rat} (h1 : q.num.natAbs < 4294967296) (h2 : q.den < 4294967296) : (canR q).Short 1 := by
  unfold canR
  split
  · exact ⟨Nat.zero_le _, Nat.zero_le _⟩
  · exact ⟨nw_len_lt.2 (by simpa using h1), nw_len_lt.2 (by simpa using h2)⟩
/-- The example's probabilities. -/
def exPs : List Rw := [canR (mkRat 1 10), canR (mkRat 1 5), canR (mkRat 1 4)]
theorem ex_short : ∀ r ∈ exPs, r.Short 1 := fun r hr => by
  simp only [exPs, List.mem_cons, List.not_mem_nil, or_false] at hr
  rcases hr with rfl | rfl | rfl
  · exact can_short1 (by decide +kernel) (by decide +kernel)
  · exact can_short1 (by decide +kernel) (by decide +kernel)
  · exact can_short1 (by decide +kernel) (by decide +kernel)
theorem ex_short3 : ∀ r ∈ exPs, r.Short 3 := fun r hr => ⟨Nat.le_trans (ex_short r hr).1 (by omega), Nat.le_trans (ex_short r hr).2 (by omega)⟩
theorem ex_good : badR exPs = false := by
  unfold badR
  rw [List.any_eq_false]
  intro r hr
  simp only [exPs, List.mem_cons, List.not_mem_nil, or_false] at hr
  rcases hr with rfl | rfl | rfl
  · rw [prob_can (by decide +kernel) (by decide +kernel)]; simp
  · rw [prob_can (by decide +kernel) (by decide +kernel)]; simp
  · rw [prob_can (by decide +kernel) (by decide +kernel)]; simp
theorem ex_q0 : qOf exPs 0 = mkRat 1 10 := by show ratOf (canR (mkRat 1 10)) = _; exact ratOf_can _
theorem ex_q1 : qOf exPs 1 = mkRat 1 5 := by show ratOf (canR (mkRat 1 5)) = _; exact ratOf_can _
theorem ex_q2 : qOf exPs 2 = mkRat 1 4 := by show ratOf (canR (mkRat 1 4)) = _; exact ratOf_can _
set_option linter.unusedSimpArgs false in
theorem chk_16 : chkI [1, 6] = 0 := by
  obtain ⟨h0, h1, h2, h3, h4, h5, h6, h7⟩ := pcs
  simp +decide [chkI, errI, okI, natsI, sortK, insK, ltK, minK, minN, keepN, h0, h1, h2, h3, h4, h5, h6, h7]
theorem cubes_16 : cubesK [1, 6] = some [(1, 0), (6, 1)] := by decide
theorem cubR_16 : cubR [1, 6] = (0, [(1, 0), (6, 1)]) := by
  unfold cubR
  rw [if_neg (by rw [chk_16]; simp), show natsI [1, 6] = [1, 6] from rfl, cubes_16]
theorem ex_sum : sumWs exPs [(1, 0), (6, 1)] 2 = mkRat 29 200 := by
  have e : sumWs exPs [(1, 0), (6, 1)] 2 = (0 + wQ (qOf exPs) (1, 0) 3) + wQ (qOf exPs) (6, 1) 3 := rfl
  have b1 : wQ (qOf exPs) (1, 0) 3 = qOf exPs 0 := by
    show ((((((1 : Rat) * if (1 : Nat).testBit 0 = true then qOf exPs 0 else 1) * if (0 : Nat).testBit 0 = true then 1 - qOf exPs 0 else 1) * if (1 : Nat).testBit 1 = true then qOf exPs 1 else 1) * if (0 : Nat).testBit 1 = true then 1 - qOf exPs 1 else 1) * if (1 : Nat).testBit 2 = true then qOf exPs 2 else 1) * (if (0 : Nat).testBit 2 = true then 1 - qOf exPs 2 else 1) = _
    rw [if_pos (by decide), if_neg (by decide), if_neg (by decide), if_neg (by decide), if_neg (by decide), if_neg (by decide)]
    grind
  have b2 : wQ (qOf exPs) (6, 1) 3 = (1 - qOf exPs 0) * (qOf exPs 1 * qOf exPs 2) := by
    show ((((((1 : Rat) * if (6 : Nat).testBit 0 = true then qOf exPs 0 else 1) * if (1 : Nat).testBit 0 = true then 1 - qOf exPs 0 else 1) * if (6 : Nat).testBit 1 = true then qOf exPs 1 else 1) * if (1 : Nat).testBit 1 = true then 1 - qOf exPs 1 else 1) * if (6 : Nat).testBit 2 = true then qOf exPs 2 else 1) * (if (1 : Nat).testBit 2 = true then 1 - qOf exPs 2 else 1) = _
    rw [if_neg (by decide), if_pos (by decide), if_pos (by decide), if_neg (by decide), if_pos (by decide), if_neg (by decide)]
    grind
  rw [e, b1, b2, ex_q0, ex_q1, ex_q2]
  decide +kernel
theorem prb_16 : prbD (ofCs [(1, 0), (6, 1)]) exPs = (0, mkRat 29 200) := by
  have h1 : chkD (ofCs [(1, 0), (6, 1)]) = 0 := by decide
  have h2 : (ofCs [(1, 0), (6, 1)]).map natC = [(1, 0), (6, 1)] := rfl
  unfold prbD
  rw [if_neg (by rw [h1]; simp), h2]
  unfold prbT
  rw [if_neg (by decide +kernel), ex_good, if_neg (by simp), show ([(1, 0), (6, 1)] : List (Nat × Nat)).length = 2 from rfl, ex_sum]
end Go.Proofs.YtbkchheikkbebaaGreatDoor

/-
  Walks: Prob of disjoint and of the reference. Printed by gen_I11.py.
-/
namespace Go.Proofs.YtbkchheikkbebaaGreatDoor
open Go.RowKit

set_option maxRecDepth 100000 in
set_option maxHeartbeats 16000000 in
theorem dprob_any (cv v : Value) (L0 : List (Int × Int)) (ps : List Rw) (w : World) (hc : CbsAt w cv L0) (hv : RatsAt w v ps) (hp3 : ∀ r ∈ ps, r.Short 3) (hp30 : ps.length ≤ 30) :
    Calls Tryz.prog 28 #[cv, v] w fun e w' => (∃ v', e = .returned (.tuple #[v', errV (prbD L0 ps).1]) ∧ RatAt w' v' (canR (prbD L0 ps).2)) ∧ Kept w w' := by
  have HCH : Hid (∀ W, Kept w W → Calls Tryz.prog 30 #[cv] W fun e w' => e = .returned (errV (chkD L0)) ∧ Kept W w') := Lib.hid fun W h => dcheck_any cv L0 W (hc.kept h)
  obtain ⟨QQ, hQQ⟩ : ∃ QQ, QQ = prbD L0 ps := ⟨_, rfl⟩
  have hQ0 : QQ = if chkD L0 ≠ 0 then (chkD L0, 0) else prbT (L0.map natC) ps := hQQ
  rw [← hQQ]
  obtain ⟨Qn, Qr⟩ := QQ
  simp only
  have HGR : Hid (∀ (s : Nat) (W : World), s < 16777216 → Calls Tryz.prog 87 #[.int .i64 s] W fun e w' => e = .returned (.int .i64 (gtK s)) ∧ Kept W w') := Lib.hid fun s W hs => (great_any s hs W).mono fun _ _ ⟨h1, h2⟩ => ⟨h1, by rw [h2]; exact Kept.refl _⟩
  have HBA := Lib.hid (fun W (h : Kept w W) => dbad_any v ps W (hv.kept h) (fun r hr => ⟨Nat.le_trans (hp3 r hr).1 (by omega), Nat.le_trans (hp3 r hr).2 (by omega)⟩))
  have HV0 := Lib.hid hc
  have HPV0 := Lib.hid hv
  have H3 := Lib.hid hp3
  obtain ⟨ca, cc, rfl⟩ := hc.shape
  obtain ⟨pa, pc, rfl⟩ := hv.shape
  obtain ⟨q1, hq1⟩ : ∃ q1, q1 = chkD L0 := ⟨_, rfl⟩
  rw [← hq1] at HCH hQ0
  have HQ0 := Lib.hid hQ0
  have HQ1 := Lib.hid hq1
  obtain ⟨w2, hw2⟩ : ∃ w2, w2 = w.alloc (.cells #[.bool false, .slice none 0 0, .slice none 0 0] 39) := ⟨_, rfl⟩
  have HR2 : Hid (RowAt w2 w.heap.size 39 [.bool false, .slice none 0 0, .slice none 0 0]) := Lib.hid (by rw [hw2]; exact RowAt.made w #[.bool false, .slice none 0 0, .slice none 0 0] 39)
  have HF2 : Hid (FixAt w2 w.heap.size [.bool false, .slice none 0 0, .slice none 0 0]) := Lib.hid (by rw [hw2]; exact FixAt.made w #[.bool false, .slice none 0 0, .slice none 0 0] 39)
  have HK2 : Hid (Kept w w2) := Lib.hid (by rw [hw2]; exact (Kept.refl _).alloc _)
  have HW2 := Lib.hid hw2
  clear hc hv hp3 hw2 hQQ hQ0 hq1
  by_cases h1 : q1 = 0
  · subst h1
    rw [errV_zero] at HCH
    obtain ⟨L, hL⟩ : ∃ L, L = L0.map natC := ⟨_, rfl⟩
    have h9 : L0.length ≤ 1024 ∧ chkCs L0 = 0 := by
      have h := HQ1.out
      unfold chkD at h
      split at h
      · cases h
      · split at h
        · exact absurd h.symm (by assumption)
        · rename_i h2 h3; exact ⟨by omega, Classical.byContradiction h3⟩
    have hL0 : L0 = ofCs L := by
      rw [hL]
      unfold ofCs
      rw [List.map_map]
      refine (List.map_id L0).symm.trans (List.map_congr_left fun c hc => ?_)
      exact (chkCb_zero (chkCs_zero h9.2 c hc)).2
    have HB : Hid (∀ c ∈ L, c.1 < 16777216 ∧ c.2 < 16777216) := Lib.hid fun c hc => by
      rw [hL] at hc
      obtain ⟨d, hd, rfl⟩ := List.mem_map.1 hc
      have := (chkCb_zero (chkCs_zero h9.2 d hd)).1
      exact ⟨this.1, this.2.1⟩
    have HQA : Hid ((Qn, Qr) = prbT L ps) := Lib.hid (by have h := HQ0.out; rw [if_neg (by omega), ← hL] at h; exact h)
    have hlen : L.length ≤ 1024 := by rw [hL, List.length_map]; exact h9.1
    have HV : Hid (CbsAt w (.slice ca L0.length cc) (ofCs L)) := Lib.hid (by rw [← hL0]; exact HV0.out)
    obtain ⟨m, hm⟩ : ∃ m, m = L0.length := ⟨_, rfl⟩
    have hm2 : m = L.length := by rw [hm, hL, List.length_map]
    rw [← hm] at HV HCH ⊢
    have HM := Lib.hid hm2
    obtain ⟨pn, hpn⟩ : ∃ pn, pn = ps.length := ⟨_, rfl⟩
    have HPV : Hid (RatsAt w (.slice pa pn pc) ps) := Lib.hid (by rw [hpn]; exact HPV0.out)
    rw [← hpn] at HBA ⊢
    have HPN := Lib.hid hpn
    have hm9 : m ≤ 1024 := by omega
    clear h9 hL0 hlen hm hm2 hpn hL HQ0 HQ1 HV0 HPV0
    go_enter Tryz.func28, Tryz.ntmps28
    go_wp2_with fail
    rw [← HW2.out]
    refine (HCH.out _ HK2.out).mono ?_
    rintro e w4 ⟨rfl, hk4⟩
    have HR4 := Lib.hid (HR2.out.kept hk4)
    have HF4 := Lib.hid (HF2.out.kept hk4)
    have HK4 := Lib.hid (HK2.out.trans hk4)
    clear hk4
    go_wp2_with fail
    go_loopg [17] m (fun kx s1 wr => ∃ k : Nat, k ≤ m ∧ s1 = .int .i64 k ∧ m - k ≤ kx ∧ Hid (∀ c ∈ L.take k, gtK (c.1 ||| c.2) < (pn : Int)) ∧ Hid (Kept w4 wr))
    case atStart => exact ⟨0, Nat.zero_le _, rfl, by omega, Lib.hid (by simp), Lib.hid (Kept.refl _)⟩
    case round =>
      obtain ⟨k, hk, rfl, hkx, HG, HKr⟩ := hrel
      have HKw := Lib.hid (HK4.out.trans HKr.out)
      by_cases hlt : k < m
      · have hkl : k < L.length := by have := HM.out; omega
        obtain ⟨b, o, rfl, g1, g2⟩ := HV.out.get k (by rw [ofCs_len]; exact hkl)
        rw [ofCs_getD hkl] at g1 g2
        obtain ⟨y, hy⟩ : ∃ y, y = L[k].1 := ⟨_, rfl⟩
        obtain ⟨n, hn⟩ : ∃ n, n = L[k].2 := ⟨_, rfl⟩
        have eL : L[k] = (y, n) := by rw [hy, hn]
        have hbd := HB.out L[k] (List.getElem_mem hkl)
        rw [eL] at g1 g2 hbd
        have x1 := HKw.out.cell g1
        have x2 := HKw.out.cell g2
        rw [← Nat.add_assoc] at x2
        simp only [ofC] at x1 x2
        have HEL := Lib.hid eL
        have p1 := or_i64 y n (by omega) (by omega)
        obtain ⟨z, hz⟩ : ∃ z, z = y ||| n := ⟨_, rfl⟩
        have hz24 : z < 16777216 := by rw [hz]; exact or_lt24 hbd.1 hbd.2
        rw [← hz] at p1
        have HZ := Lib.hid hz
        have HGC := Lib.hid (fun W => HGR.out z W hz24)
        have hki : (k : Int) < (m : Int) := by omega
        obtain ⟨g, hg⟩ : ∃ g, g = gtK z := ⟨_, rfl⟩
        have HGG := Lib.hid hg
        rw [← hg] at HGC
        obtain ⟨wo, rfl⟩ : ∃ wo : World, wo = wr := ⟨_, rfl⟩
        clear g1 g2 hy hn eL hbd hz hz24 hg
        by_cases hge : (pn : Int) ≤ g
        · have HQV : Hid (Qn = 11 ∧ Qr = 0) := Lib.hid (by
            have h := HQA.out
            unfold prbT at h
            rw [if_pos (List.any_eq_true.2 ⟨L[k], List.getElem_mem _, decide_eq_true (by rw [HEL.out, ← HPN.out]; show (pn : Int) ≤ gtK (y ||| n); rw [← HZ.out, ← HGG.out]; exact hge)⟩)] at h
            injection h with h1 h2
            exact ⟨h1, h2⟩)
          have dge : decide ((pn : Int) ≤ g) = true := decide_eq_true hge
          go_wp2_with (go_at_call 87; refine (HGC.out _).mono ?_; rintro e w5 ⟨rfl, hk5⟩; have HRW := Lib.hid (HR4.out.kept (HKr.out.trans (((Kept.refl _).alloc _).trans hk5))); have HFW := Lib.hid (HF4.out.kept (HKr.out.trans (((Kept.refl _).alloc _).trans hk5))); have HK5 := Lib.hid (HKw.out.trans (((Kept.refl _).alloc _).trans hk5)); clear hk5; have G0 := HRW.out.cell (i := 0) (by simp); have G1 := HRW.out.cell (i := 1) (by simp); have G2 := HRW.out.cell (i := 2) (by simp); have F0 := HRW.out.free 0; have F1 := HRW.out.free 1; have F2 := HRW.out.free 2; have LT := HRW.out.lt)
          obtain ⟨y0, y1, y2, hra⟩ := rat_stored (r := ⟨false, [], []⟩) HRW.out HFW.out (WdsAt.nil _) (WdsAt.nil _)
          have Y := Lib.hid (And.intro y0 (And.intro y1 y2))
          have HRA := Lib.hid hra
          clear y0 y1 y2 hra
          refine bodyPost_ret (v := .tuple #[.agg #[.bool false, .slice none 0 0, .slice none 0 0], errV 11]) ?_ rfl ⟨⟨_, by rw [HQV.out.1], by rw [HQV.out.2, canR_zero]; exact HRA.out⟩, ?_⟩
          · simp [results, Tryz.results28, go_sem, Y.out.1, Y.out.2.1, Y.out.2.2, errV]
          · exact ((HK5.out.store (by omega) _ _).store (by omega) _ _).store (by omega) _ _
        · have hgl : ¬ (pn : Int) ≤ g := hge
          have dgl : decide ((pn : Int) ≤ g) = false := decide_eq_false hge
          go_wp2_with (go_at_call 87; refine (HGC.out _).mono ?_; rintro e w5 ⟨rfl, hk5⟩; have HK5 := Lib.hid (HKr.out.trans (((Kept.refl _).alloc _).trans hk5)); clear hk5)
          go_roundg (m - (k + 1))
          case measure => omega
          case rel => exact ⟨k + 1, by omega, by go_num, Nat.le_refl _, Lib.hid (fun c hc => by
            rw [List.take_succ_eq_append_getElem hkl] at hc
            rcases List.mem_append.1 hc with hc | hc
            · exact HG.out c hc
            · simp at hc; rw [hc, HEL.out]; show gtK (y ||| n) < _; rw [← HZ.out, ← HGG.out]; omega), HK5⟩
      · have hki : ¬ (k : Int) < (m : Int) := by omega
        have HGA : Hid (∀ c ∈ L, gtK (c.1 ||| c.2) < (pn : Int)) := Lib.hid (by have h := HG.out; rwa [List.take_of_length_le (by have := HM.out; omega)] at h)
        have HQB : Hid ((Qn, Qr) = if badR ps = true then (3, 0) else (0, sumWs ps L L.length)) := Lib.hid (by
          have h := HQA.out
          unfold prbT at h
          rw [if_neg (by
            intro h2
            obtain ⟨c, hc, h3⟩ := List.any_eq_true.1 h2
            have := HGA.out c hc
            have := of_decide_eq_true h3
            have := HPN.out
            omega)] at h
          exact h)
        cases hbad : badR ps with
        | true =>
          rw [hbad] at HBA HQB
          have HQV : Hid (Qn = 3 ∧ Qr = 0) := Lib.hid (by
            have h := HQB.out
            rw [if_pos rfl] at h
            injection h with h1 h2
            exact ⟨h1, h2⟩)
          clear hbad
          go_wp2_with fail
          refine (HBA.out _ HKw.out).mono ?_
          rintro e w5 ⟨rfl, hk5⟩
          have HRW := Lib.hid (HR4.out.kept (HKr.out.trans hk5))
          have HFW := Lib.hid (HF4.out.kept (HKr.out.trans hk5))
          have HK5 := Lib.hid (HKw.out.trans hk5)
          clear hk5
          have hr5 := HRW.out
          obtain ⟨y0, y1, y2, hra⟩ := rat_stored (r := ⟨false, [], []⟩) hr5 HFW.out (WdsAt.nil _) (WdsAt.nil _)
          have Y := Lib.hid (And.intro y0 (And.intro y1 y2))
          have HRA := Lib.hid hra
          have g0 := hr5.cell (i := 0) (by simp)
          have g1 := hr5.cell (i := 1) (by simp)
          have g2 := hr5.cell (i := 2) (by simp)
          have f0 := hr5.free 0
          have f1 := hr5.free 1
          have f2 := hr5.free 2
          have hlt5 := hr5.lt
          clear hr5 y0 y1 y2 hra
          go_wp2
          refine bodyPost_ret (v := .tuple #[.agg #[.bool false, .slice none 0 0, .slice none 0 0], errV 3]) ?_ rfl ⟨⟨_, by rw [HQV.out.1], by rw [HQV.out.2, canR_zero]; exact HRA.out⟩, ?_⟩
          · simp [results, Tryz.results28, go_sem, Y.out.1, Y.out.2.1, Y.out.2.2, errV]
          · exact ((HK5.out.store (by omega) _ _).store (by omega) _ _).store (by omega) _ _
        | false =>
          rw [hbad] at HBA HQB
          have HQV : Hid (Qn = 0 ∧ Qr = sumWs ps L L.length) := Lib.hid (by
            have h := HQB.out
            rw [if_neg (by simp)] at h
            injection h with h1 h2
            exact ⟨h1, h2⟩)
          clear hbad
          go_wp2_with fail
          refine (HBA.out _ HKw.out).mono ?_
          rintro e w5 ⟨rfl, hk5⟩
          have HRW := Lib.hid (HR4.out.kept (HKr.out.trans hk5))
          have HFW := Lib.hid (HF4.out.kept (HKr.out.trans hk5))
          have HK5 := Lib.hid (HKw.out.trans hk5)
          clear hk5
          have HTO := Lib.hid (fun W (h : Kept w W) => dtotal_any (.slice ca m cc) (.slice pa pn pc) L ps W (HV.out.kept h) HB.out (by have := HM.out; omega) (HPV.out.kept h) H3.out (by have := HPN.out; omega))
          rw [← HM.out] at HTO
          go_wp2_with fail
          refine (HTO.out _ HK5.out).mono ?_
          rintro e w6 ⟨⟨v6, rfl, hv6⟩, hk6⟩
          have hrr := HRW.out.kept hk6
          have HFF := Lib.hid (HFW.out.kept hk6)
          have HK6 := Lib.hid (HK5.out.trans hk6)
          rw [HM.out, ← HQV.out.2] at hv6
          obtain ⟨R, hR⟩ : ∃ R, R = canR Qr := ⟨_, rfl⟩
          have HRR := Lib.hid hR
          rw [← hR] at hv6
          obtain ⟨u7, u8, rfl, k7, k8⟩ := hv6
          obtain ⟨a5, c5, rfl⟩ := k7.shape
          obtain ⟨a6, c6, rfl⟩ := k8.shape
          obtain ⟨y0, y1, y2, hra⟩ := rat_stored hrr HFF.out k7 k8
          have g0 := hrr.cell (i := 0) (by simp)
          have g1 := hrr.cell (i := 1) (by simp)
          have g2 := hrr.cell (i := 2) (by simp)
          have f0 := hrr.free 0
          have f1 := hrr.free 1
          have f2 := hrr.free 2
          have hlt5 := hrr.lt
          have HRA := Lib.hid hra
          have Y := Lib.hid (And.intro y0 (And.intro y1 y2))
          clear hra y0 y1 y2 k7 k8 hrr hk6 hR
          generalize R.num.length = n7 at *
          generalize R.den.length = n8 at *
          go_wp2
          refine bodyPost_ret (v := .tuple #[.agg #[.bool R.neg, .slice a5 n7 c5, .slice a6 n8 c6], .nilIface]) ?_ rfl ⟨⟨_, by rw [HQV.out.1]; rfl, by rw [← HRR.out]; exact HRA.out⟩, ?_⟩
          · simp [results, Tryz.results28, go_sem, Y.out.1, Y.out.2.1, Y.out.2.2]
          · exact ((HK6.out.store (by omega) _ _).store (by omega) _ _).store (by omega) _ _
  · have HQV : Hid (Qn = q1 ∧ Qr = 0) := Lib.hid (by
      have h := HQ0.out
      rw [if_pos h1] at h
      injection h with h3 h4
      exact ⟨h3, h4⟩)
    rw [errV_pos h1] at HCH
    clear HQ0 HQ1
    go_enter Tryz.func28, Tryz.ntmps28
    go_wp2_with fail
    rw [← HW2.out]
    refine (HCH.out _ HK2.out).mono ?_
    rintro e w5 ⟨rfl, hk5⟩
    have HRW := Lib.hid (HR2.out.kept hk5)
    have HFW := Lib.hid (HF2.out.kept hk5)
    have HK5 := Lib.hid (HK2.out.trans hk5)
    clear hk5
    have hr5 := HRW.out
    obtain ⟨y0, y1, y2, hra⟩ := rat_stored (r := ⟨false, [], []⟩) hr5 HFW.out (WdsAt.nil _) (WdsAt.nil _)
    have Y := Lib.hid (And.intro y0 (And.intro y1 y2))
    have HRA := Lib.hid hra
    have g0 := hr5.cell (i := 0) (by simp)
    have g1 := hr5.cell (i := 1) (by simp)
    have g2 := hr5.cell (i := 2) (by simp)
    have f0 := hr5.free 0
    have f1 := hr5.free 1
    have f2 := hr5.free 2
    have hlt5 := hr5.lt
    clear hr5 y0 y1 y2 hra
    go_wp2
    refine bodyPost_ret (v := .tuple #[.agg #[.bool false, .slice none 0 0, .slice none 0 0], .iface 50 (.int .i64 q1)]) ?_ rfl ⟨⟨_, by rw [HQV.out.1]; rw [errV_pos h1], by rw [HQV.out.2, canR_zero]; exact HRA.out⟩, ?_⟩
    · simp [results, Tryz.results28, go_sem, Y.out.1, Y.out.2.1, Y.out.2.2]
    · exact ((HK5.out.store (by omega) _ _).store (by omega) _ _).store (by omega) _ _
set_option maxRecDepth 100000 in
set_option maxHeartbeats 16000000 in
theorem rdprob_any (cv v : Value) (L0 : List (Int × Int)) (ps : List Rw) (w : World) (hc : CbsAt w cv L0) (hv : RatsAt w v ps) (hp3 : ∀ r ∈ ps, r.Short 3) (hp30 : ps.length ≤ 30) :
    Calls Tryz.prog 29 #[cv, v] w fun e w' => (∃ v', e = .returned (.tuple #[v', .int .i64 ((prbD L0 ps).1 : Nat)]) ∧ RatAt w' v' (canR (prbD L0 ps).2)) ∧ Kept w w' := by
  have HCH : Hid (∀ W, Kept w W → Calls Tryz.prog 31 #[cv] W fun e w' => e = .returned (.int .i64 ((chkD L0) : Nat)) ∧ Kept W w') := Lib.hid fun W h => rdcheck_any cv L0 W (hc.kept h)
  obtain ⟨QQ, hQQ⟩ : ∃ QQ, QQ = prbD L0 ps := ⟨_, rfl⟩
  have hQ0 : QQ = if chkD L0 ≠ 0 then (chkD L0, 0) else prbT (L0.map natC) ps := hQQ
  rw [← hQQ]
  obtain ⟨Qn, Qr⟩ := QQ
  simp only
  have HGR : Hid (∀ (s : Nat) (W : World), s < 16777216 → Calls Tryz.prog 90 #[.int .i64 s] W fun e w' => e = .returned (.int .i64 (gtK s)) ∧ Kept W w') := Lib.hid fun s W hs => great05_any s hs W
  have HBA := Lib.hid (fun W (h : Kept w W) => r38bad_any v ps W (hv.kept h) (fun r hr => ⟨Nat.le_trans (hp3 r hr).1 (by omega), Nat.le_trans (hp3 r hr).2 (by omega)⟩))
  have HV0 := Lib.hid hc
  have HPV0 := Lib.hid hv
  have H3 := Lib.hid hp3
  obtain ⟨ca, cc, rfl⟩ := hc.shape
  obtain ⟨pa, pc, rfl⟩ := hv.shape
  obtain ⟨q1, hq1⟩ : ∃ q1, q1 = chkD L0 := ⟨_, rfl⟩
  rw [← hq1] at HCH hQ0
  have HQ0 := Lib.hid hQ0
  have HQ1 := Lib.hid hq1
  obtain ⟨w2, hw2⟩ : ∃ w2, w2 = w.alloc (.cells #[.bool false, .slice none 0 0, .slice none 0 0] 39) := ⟨_, rfl⟩
  have HR2 : Hid (RowAt w2 w.heap.size 39 [.bool false, .slice none 0 0, .slice none 0 0]) := Lib.hid (by rw [hw2]; exact RowAt.made w #[.bool false, .slice none 0 0, .slice none 0 0] 39)
  have HF2 : Hid (FixAt w2 w.heap.size [.bool false, .slice none 0 0, .slice none 0 0]) := Lib.hid (by rw [hw2]; exact FixAt.made w #[.bool false, .slice none 0 0, .slice none 0 0] 39)
  have HK2 : Hid (Kept w w2) := Lib.hid (by rw [hw2]; exact (Kept.refl _).alloc _)
  have HW2 := Lib.hid hw2
  clear hc hv hp3 hw2 hQQ hQ0 hq1
  by_cases h1 : q1 = 0
  · subst h1
    obtain ⟨L, hL⟩ : ∃ L, L = L0.map natC := ⟨_, rfl⟩
    have h9 : L0.length ≤ 1024 ∧ chkCs L0 = 0 := by
      have h := HQ1.out
      unfold chkD at h
      split at h
      · cases h
      · split at h
        · exact absurd h.symm (by assumption)
        · rename_i h2 h3; exact ⟨by omega, Classical.byContradiction h3⟩
    have hL0 : L0 = ofCs L := by
      rw [hL]
      unfold ofCs
      rw [List.map_map]
      refine (List.map_id L0).symm.trans (List.map_congr_left fun c hc => ?_)
      exact (chkCb_zero (chkCs_zero h9.2 c hc)).2
    have HB : Hid (∀ c ∈ L, c.1 < 16777216 ∧ c.2 < 16777216) := Lib.hid fun c hc => by
      rw [hL] at hc
      obtain ⟨d, hd, rfl⟩ := List.mem_map.1 hc
      have := (chkCb_zero (chkCs_zero h9.2 d hd)).1
      exact ⟨this.1, this.2.1⟩
    have HQA : Hid ((Qn, Qr) = prbT L ps) := Lib.hid (by have h := HQ0.out; rw [if_neg (by omega), ← hL] at h; exact h)
    have hlen : L.length ≤ 1024 := by rw [hL, List.length_map]; exact h9.1
    have HV : Hid (CbsAt w (.slice ca L0.length cc) (ofCs L)) := Lib.hid (by rw [← hL0]; exact HV0.out)
    obtain ⟨m, hm⟩ : ∃ m, m = L0.length := ⟨_, rfl⟩
    have hm2 : m = L.length := by rw [hm, hL, List.length_map]
    rw [← hm] at HV HCH ⊢
    have HM := Lib.hid hm2
    obtain ⟨pn, hpn⟩ : ∃ pn, pn = ps.length := ⟨_, rfl⟩
    have HPV : Hid (RatsAt w (.slice pa pn pc) ps) := Lib.hid (by rw [hpn]; exact HPV0.out)
    rw [← hpn] at HBA ⊢
    have HPN := Lib.hid hpn
    have hm9 : m ≤ 1024 := by omega
    clear h9 hL0 hlen hm hm2 hpn hL HQ0 HQ1 HV0 HPV0
    go_enter Tryz.func29, Tryz.ntmps29
    go_wp2_with fail
    rw [← HW2.out]
    refine (HCH.out _ HK2.out).mono ?_
    rintro e w4 ⟨rfl, hk4⟩
    have HR4 := Lib.hid (HR2.out.kept hk4)
    have HF4 := Lib.hid (HF2.out.kept hk4)
    have HK4 := Lib.hid (HK2.out.trans hk4)
    clear hk4
    go_wp2_with fail
    go_loopg [20] m (fun kx s1 wr => ∃ k : Nat, k ≤ m ∧ s1 = .int .i64 k ∧ m - k ≤ kx ∧ Hid (∀ c ∈ L.take k, gtK (c.1 ||| c.2) < (pn : Int)) ∧ Hid (Kept w4 wr))
    case atStart => exact ⟨0, Nat.zero_le _, rfl, by omega, Lib.hid (by simp), Lib.hid (Kept.refl _)⟩
    case round =>
      obtain ⟨k, hk, rfl, hkx, HG, HKr⟩ := hrel
      have HKw := Lib.hid (HK4.out.trans HKr.out)
      by_cases hlt : k < m
      · have hkl : k < L.length := by have := HM.out; omega
        obtain ⟨b, o, rfl, g1, g2⟩ := HV.out.get k (by rw [ofCs_len]; exact hkl)
        rw [ofCs_getD hkl] at g1 g2
        obtain ⟨y, hy⟩ : ∃ y, y = L[k].1 := ⟨_, rfl⟩
        obtain ⟨n, hn⟩ : ∃ n, n = L[k].2 := ⟨_, rfl⟩
        have eL : L[k] = (y, n) := by rw [hy, hn]
        have hbd := HB.out L[k] (List.getElem_mem hkl)
        rw [eL] at g1 g2 hbd
        have x1 := HKw.out.cell g1
        have x2 := HKw.out.cell g2
        rw [← Nat.add_assoc] at x2
        simp only [ofC] at x1 x2
        have HEL := Lib.hid eL
        have p1 := or_i64 y n (by omega) (by omega)
        obtain ⟨z, hz⟩ : ∃ z, z = y ||| n := ⟨_, rfl⟩
        have hz24 : z < 16777216 := by rw [hz]; exact or_lt24 hbd.1 hbd.2
        rw [← hz] at p1
        have HZ := Lib.hid hz
        have HGC := Lib.hid (fun W => HGR.out z W hz24)
        have hki : (k : Int) < (m : Int) := by omega
        obtain ⟨g, hg⟩ : ∃ g, g = gtK z := ⟨_, rfl⟩
        have HGG := Lib.hid hg
        rw [← hg] at HGC
        obtain ⟨wo, rfl⟩ : ∃ wo : World, wo = wr := ⟨_, rfl⟩
        clear g1 g2 hy hn eL hbd hz hz24 hg
        by_cases hge : (pn : Int) ≤ g
        · have HQV : Hid (Qn = 11 ∧ Qr = 0) := Lib.hid (by
            have h := HQA.out
            unfold prbT at h
            rw [if_pos (List.any_eq_true.2 ⟨L[k], List.getElem_mem _, decide_eq_true (by rw [HEL.out, ← HPN.out]; show (pn : Int) ≤ gtK (y ||| n); rw [← HZ.out, ← HGG.out]; exact hge)⟩)] at h
            injection h with h1 h2
            exact ⟨h1, h2⟩)
          have dge : decide ((pn : Int) ≤ g) = true := decide_eq_true hge
          go_wp2_with (go_at_call 90; refine (HGC.out _).mono ?_; rintro e w5 ⟨rfl, hk5⟩; have HRW := Lib.hid (HR4.out.kept (HKr.out.trans (((Kept.refl _).alloc _).trans hk5))); have HFW := Lib.hid (HF4.out.kept (HKr.out.trans (((Kept.refl _).alloc _).trans hk5))); have HK5 := Lib.hid (HKw.out.trans (((Kept.refl _).alloc _).trans hk5)); clear hk5; have G0 := HRW.out.cell (i := 0) (by simp); have G1 := HRW.out.cell (i := 1) (by simp); have G2 := HRW.out.cell (i := 2) (by simp); have F0 := HRW.out.free 0; have F1 := HRW.out.free 1; have F2 := HRW.out.free 2; have LT := HRW.out.lt)
          obtain ⟨y0, y1, y2, hra⟩ := rat_stored (r := ⟨false, [], []⟩) HRW.out HFW.out (WdsAt.nil _) (WdsAt.nil _)
          have Y := Lib.hid (And.intro y0 (And.intro y1 y2))
          have HRA := Lib.hid hra
          clear y0 y1 y2 hra
          refine bodyPost_ret (v := .tuple #[.agg #[.bool false, .slice none 0 0, .slice none 0 0], .int .i64 11]) ?_ rfl ⟨⟨_, by rw [HQV.out.1]; rfl, by rw [HQV.out.2, canR_zero]; exact HRA.out⟩, ?_⟩
          · simp [results, Tryz.results29, go_sem, Y.out.1, Y.out.2.1, Y.out.2.2]
          · exact ((HK5.out.store (by omega) _ _).store (by omega) _ _).store (by omega) _ _
        · have hgl : ¬ (pn : Int) ≤ g := hge
          have dgl : decide ((pn : Int) ≤ g) = false := decide_eq_false hge
          go_wp2_with (go_at_call 90; refine (HGC.out _).mono ?_; rintro e w5 ⟨rfl, hk5⟩; have HK5 := Lib.hid (HKr.out.trans (((Kept.refl _).alloc _).trans hk5)); clear hk5)
          go_roundg (m - (k + 1))
          case measure => omega
          case rel => exact ⟨k + 1, by omega, by go_num, Nat.le_refl _, Lib.hid (fun c hc => by
            rw [List.take_succ_eq_append_getElem hkl] at hc
            rcases List.mem_append.1 hc with hc | hc
            · exact HG.out c hc
            · simp at hc; rw [hc, HEL.out]; show gtK (y ||| n) < _; rw [← HZ.out, ← HGG.out]; omega), HK5⟩
      · have hki : ¬ (k : Int) < (m : Int) := by omega
        have HGA : Hid (∀ c ∈ L, gtK (c.1 ||| c.2) < (pn : Int)) := Lib.hid (by have h := HG.out; rwa [List.take_of_length_le (by have := HM.out; omega)] at h)
        have HQB : Hid ((Qn, Qr) = if badR ps = true then (3, 0) else (0, sumWs ps L L.length)) := Lib.hid (by
          have h := HQA.out
          unfold prbT at h
          rw [if_neg (by
            intro h2
            obtain ⟨c, hc, h3⟩ := List.any_eq_true.1 h2
            have := HGA.out c hc
            have := of_decide_eq_true h3
            have := HPN.out
            omega)] at h
          exact h)
        cases hbad : badR ps with
        | true =>
          rw [hbad] at HBA HQB
          have HQV : Hid (Qn = 3 ∧ Qr = 0) := Lib.hid (by
            have h := HQB.out
            rw [if_pos rfl] at h
            injection h with h1 h2
            exact ⟨h1, h2⟩)
          clear hbad
          go_wp2_with fail
          refine (HBA.out _ HKw.out).mono ?_
          rintro e w5 ⟨rfl, hk5⟩
          have HRW := Lib.hid (HR4.out.kept (HKr.out.trans hk5))
          have HFW := Lib.hid (HF4.out.kept (HKr.out.trans hk5))
          have HK5 := Lib.hid (HKw.out.trans hk5)
          clear hk5
          have hr5 := HRW.out
          obtain ⟨y0, y1, y2, hra⟩ := rat_stored (r := ⟨false, [], []⟩) hr5 HFW.out (WdsAt.nil _) (WdsAt.nil _)
          have Y := Lib.hid (And.intro y0 (And.intro y1 y2))
          have HRA := Lib.hid hra
          have g0 := hr5.cell (i := 0) (by simp)
          have g1 := hr5.cell (i := 1) (by simp)
          have g2 := hr5.cell (i := 2) (by simp)
          have f0 := hr5.free 0
          have f1 := hr5.free 1
          have f2 := hr5.free 2
          have hlt5 := hr5.lt
          clear hr5 y0 y1 y2 hra
          go_wp2
          refine bodyPost_ret (v := .tuple #[.agg #[.bool false, .slice none 0 0, .slice none 0 0], .int .i64 3]) ?_ rfl ⟨⟨_, by rw [HQV.out.1]; rfl, by rw [HQV.out.2, canR_zero]; exact HRA.out⟩, ?_⟩
          · simp [results, Tryz.results29, go_sem, Y.out.1, Y.out.2.1, Y.out.2.2]
          · exact ((HK5.out.store (by omega) _ _).store (by omega) _ _).store (by omega) _ _
        | false =>
          rw [hbad] at HBA HQB
          have HQV : Hid (Qn = 0 ∧ Qr = sumWs ps L L.length) := Lib.hid (by
            have h := HQB.out
            rw [if_neg (by simp)] at h
            injection h with h1 h2
            exact ⟨h1, h2⟩)
          clear hbad
          go_wp2_with fail
          refine (HBA.out _ HKw.out).mono ?_
          rintro e w5 ⟨rfl, hk5⟩
          have HRW := Lib.hid (HR4.out.kept (HKr.out.trans hk5))
          have HFW := Lib.hid (HF4.out.kept (HKr.out.trans hk5))
          have HK5 := Lib.hid (HKw.out.trans hk5)
          clear hk5
          have HPR : Hid (∀ (y n : Nat) W, y < 16777216 → n < 16777216 → Kept w W → Calls Tryz.prog 92 #[.agg #[.int .i64 y, .int .i64 n], .slice pa pn pc] W fun e w' => (∃ v', e = .returned v' ∧ RatAt w' v' (canR (wQs ps (y, n) pn))) ∧ Kept W w') := Lib.hid fun y n W h1 h2 hk => by
            rw [HPN.out]
            have hv := HPV.out
            rw [HPN.out] at hv
            exact rweight_any y n _ ps W h1 h2 (hv.kept hk) H3.out (by have := HPN.out; omega)
          have HSS : Hid (∀ k, k ≤ m → (canR (sumWs ps L k)).Short (362 * k + 1)) := Lib.hid (fun k hk => sumWs_short (l := L) H3.out HPV.out.ok (by have := HPN.out; omega) k (by have := HM.out; omega))
          have HPS : Hid (∀ c, (canR (wQs ps c pn)).Short (12 * pn + 1)) := Lib.hid (fun c => by rw [HPN.out]; exact wQ_short (c := c) H3.out HPV.out.ok ps.length (Nat.le_refl _))
          have hpn30 : pn ≤ 30 := by have := HPN.out; omega
          have hm1024 : m ≤ 1024 := by omega
          obtain ⟨w8, hw8⟩ : ∃ w8, w8 = w5.alloc (.cells #[.bool false, .slice none 0 0, .slice none 0 0] 39) := ⟨_, rfl⟩
          have HC : Hid (RatCell w8 w5.heap.size (canR (sumWs ps L 0))) := Lib.hid (by rw [hw8]; exact RatCell.made (r := ⟨false, [], []⟩) (WdsAt.nil w5) (WdsAt.nil w5))
          have HK8 : Hid (Kept w5 w8) := Lib.hid (by rw [hw8]; exact (Kept.refl _).alloc _)
          have HW8 := Lib.hid hw8
          clear hw8
          go_wp2_with fail
          rw [← HW8.out]
          go_loopg [41] m (fun kx s41 wq => ∃ j : Nat, j ≤ m ∧ s41 = .int .i64 j ∧ m - j ≤ kx ∧ Hid (RatCell wq w5.heap.size (canR (sumWs ps L j))) ∧ Hid (Kept w5 wq))
          case atStart => exact ⟨0, Nat.zero_le _, rfl, by omega, HC, HK8⟩
          case round =>
            obtain ⟨j, hj, rfl, hjx, HX, HKq⟩ := hrel
            have HKw2 := Lib.hid (HK5.out.trans HKq.out)
            by_cases hjm : j < m
            · have hjl : j < L.length := by have := HM.out; omega
              obtain ⟨b, o, rfl, g1, g2⟩ := HV.out.get j (by rw [ofCs_len]; exact hjl)
              have eC : (ofCs L).getD j default = ofC L[j] := ofCs_getD hjl
              rw [eC] at g1 g2
              obtain ⟨y, hy⟩ : ∃ y, y = L[j].1 := ⟨_, rfl⟩
              obtain ⟨n, hn⟩ : ∃ n, n = L[j].2 := ⟨_, rfl⟩
              have eL : L[j] = (y, n) := by rw [hy, hn]
              have hbd := HB.out L[j] (List.getElem_mem hjl)
              rw [eL] at g1 g2 hbd
              have x1 := HKw2.out.cell g1
              have x2 := HKw2.out.cell g2
              rw [← Nat.add_assoc] at x2
              simp only [ofC] at x1 x2
              have HP := Lib.hid (fun W (h : Kept w W) => HPR.out y n W hbd.1 hbd.2 h)
              have HST : Hid (canR (sumWs ps L (j + 1)) = canR (ratOf (canR (sumWs ps L j)) + ratOf (canR (wQs ps (y, n) pn)))) := Lib.hid (by rw [sumWs_succ hjl, ratOf_can, ratOf_can, HPN.out, eL])
              have hsk := HSS.out j (by omega)
              have hps := HPS.out (y, n)
              have hji : (j : Int) < (m : Int) := by omega
              have HAD : Hid (∀ W u1 u2, RatAt W u1 (canR (sumWs ps L j)) → RatAt W u2 (canR (wQs ps (y, n) pn)) → Calls Tryz.prog 91 #[u1, u2] W fun e w' => (∃ v', e = .returned v' ∧ RatAt w' v' (canR (sumWs ps L (j + 1)))) ∧ Kept W w') := Lib.hid fun W u1 u2 k1 k2 => by
                rw [HST.out]
                exact refadd02_any u1 u2 _ _ W k1 k2 ⟨Nat.le_trans hsk.1 (by omega), Nat.le_trans hsk.2 (by omega)⟩ ⟨Nat.le_trans hps.1 (by omega), Nat.le_trans hps.2 (by omega)⟩
              obtain ⟨wo, rfl⟩ : ∃ wo : World, wo = wr := ⟨_, rfl⟩
              obtain ⟨w5, hw5⟩ : ∃ w5, w5 = wo.alloc (.cells #[.int .i64 (y : Int), .int .i64 (n : Int)] 55) := ⟨_, rfl⟩
              have HK5 : Hid (Kept wo w5) := Lib.hid (by rw [hw5]; exact (Kept.refl _).alloc _)
              have hq5 := RowAt.made wo #[.int .i64 (y : Int), .int .i64 (n : Int)] 55
              rw [← hw5] at hq5
              have q0 := hq5.cell (i := 0) (by simp)
              have q1 := hq5.cell (i := 1) (by simp)
              simp only [List.getElem_cons_succ, List.getElem_cons_zero] at q0 q1
              have hql := hq5.lt
              have HX5 := Lib.hid (HX.out.kept HK5.out)
              have HKq5 := Lib.hid (HKq.out.trans HK5.out)
              have HKw5 := Lib.hid (HKw2.out.trans HK5.out)
              obtain ⟨a5, c5, a6, c6, ⟨x0, x3, x4⟩, ⟨f0, f1, f2⟩, hgl, hxa⟩ := HX5.out.at
              have HXA := Lib.hid hxa
              have HW5 := Lib.hid hw5
              generalize (canR (sumWs ps L j)).neg = z3 at *
              generalize (canR (sumWs ps L j)).num.length = z4 at *
              generalize (canR (sumWs ps L j)).den.length = z5 at *
              clear g1 g2 eC hsk hps hxa hy hn hw5 hq5
              go_wp2_with fail
              rw [← HW5.out]
              go_region_with (first
                | (go_at_call 92; (with_reducible refine (HP.out _ (HKw5.out.drew)).mono ?_); rintro e w6 ⟨⟨v6, rfl, hv6⟩, hk6⟩; have hkd := (Kept.refl _).drew.trans hk6; have i0 := hkd.cell x0; have i1 := hkd.cell x3; have i2 := hkd.cell x4; have HX6 := Lib.hid (HX5.out.kept hkd); have HXA6 := Lib.hid (HXA.out.kept hkd); have HK6 := Lib.hid (HKq5.out.trans hkd); have HV6 := Lib.hid hv6; clear hk6 hkd hv6)
                | (go_at_call 91; (with_reducible refine (HAD.out _ _ _ HXA6.out HV6.out).mono ?_); rintro e w7 ⟨⟨v7, rfl, hv7⟩, hk7⟩; have HX7 := Lib.hid (HX6.out.kept hk7); have HK7 := Lib.hid (HK6.out.trans hk7); obtain ⟨u7, u8, rfl, k7, k8⟩ := hv7; obtain ⟨a7, c7, rfl⟩ := k7.shape; obtain ⟨a8, c8, rfl⟩ := k8.shape; have K7 := Lib.hid k7; have K8 := Lib.hid k8; obtain ⟨_, _, _, _, ⟨t0, t1, t2⟩, ⟨j0, j1, j2⟩, hgl6, _⟩ := HX7.out.at; clear k7 k8 hk7))
              all_goals
                have HS := Lib.hid (HX7.out.store K7.out K8.out)
                generalize (canR (sumWs ps L (j + 1))).num.length = n7 at *
                generalize (canR (sumWs ps L (j + 1))).den.length = n8 at *
                go_wp2_with fail
                go_roundg (m - (j + 1))
                case measure => omega
                case rel => exact ⟨j + 1, by omega, by go_num, Nat.le_refl _, HS, Lib.hid (((HK7.out.store (Nat.le_refl _) _ _).store (Nat.le_refl _) _ _).store (Nat.le_refl _) _ _)⟩
            · have hje : j = m := by omega
              have hji : ¬ (j : Int) < (m : Int) := by omega
              obtain ⟨R, hR⟩ : ∃ R, R = canR Qr := ⟨_, rfl⟩
              have HRR := Lib.hid hR
              have HX2 : Hid (RatCell wr w5.heap.size R) := Lib.hid (by rw [hR, HQV.out.2, ← HM.out, ← hje]; exact HX.out)
              have hrr := HRW.out.kept HKq.out
              have HFF := Lib.hid (HFW.out.kept HKq.out)
              obtain ⟨a5, c5, a6, c6, ⟨x0, x1, x2⟩, _, hgl, u7, u8, e9, k7, k8⟩ := HX2.out.at
              simp only [Value.agg.injEq] at e9
              have e9' := congrArg Array.toList e9
              simp at e9'
              obtain ⟨rfl, rfl⟩ := e9'
              obtain ⟨y0, y1, y2, hra⟩ := rat_stored hrr HFF.out k7 k8
              have g0 := hrr.cell (i := 0) (by simp)
              have g1 := hrr.cell (i := 1) (by simp)
              have g2 := hrr.cell (i := 2) (by simp)
              have f0 := hrr.free 0
              have f1 := hrr.free 1
              have f2 := hrr.free 2
              have hlt5 := hrr.lt
              have HRA := Lib.hid hra
              have Y := Lib.hid (And.intro y0 (And.intro y1 y2))
              clear hra y0 y1 y2 k7 k8 hrr e9
              clear hje hR
              generalize R.num.length = n7 at *
              generalize R.den.length = n8 at *
              go_wp2
              refine bodyPost_ret (v := .tuple #[.agg #[.bool R.neg, .slice a5 n7 c5, .slice a6 n8 c6], .int .i64 0]) ?_ rfl ⟨⟨_, by rw [HQV.out.1]; rfl, by rw [← HRR.out]; exact HRA.out⟩, ?_⟩
              · simp [results, Tryz.results29, go_sem, Y.out.1, Y.out.2.1, Y.out.2.2]
              · exact ((HKw2.out.store (by omega) _ _).store (by omega) _ _).store (by omega) _ _
  · have HQV : Hid (Qn = q1 ∧ Qr = 0) := Lib.hid (by
      have h := HQ0.out
      rw [if_pos h1] at h
      injection h with h3 h4
      exact ⟨h3, h4⟩)
    have hq0 : ((q1 : Int) != 0) = true := by simp; omega
    have hq1' : ¬ (q1 : Int) = 0 := by omega
    clear HQ0 HQ1
    go_enter Tryz.func29, Tryz.ntmps29
    go_wp2_with fail
    rw [← HW2.out]
    refine (HCH.out _ HK2.out).mono ?_
    rintro e w5 ⟨rfl, hk5⟩
    have HRW := Lib.hid (HR2.out.kept hk5)
    have HFW := Lib.hid (HF2.out.kept hk5)
    have HK5 := Lib.hid (HK2.out.trans hk5)
    clear hk5
    have hr5 := HRW.out
    obtain ⟨y0, y1, y2, hra⟩ := rat_stored (r := ⟨false, [], []⟩) hr5 HFW.out (WdsAt.nil _) (WdsAt.nil _)
    have Y := Lib.hid (And.intro y0 (And.intro y1 y2))
    have HRA := Lib.hid hra
    have g0 := hr5.cell (i := 0) (by simp)
    have g1 := hr5.cell (i := 1) (by simp)
    have g2 := hr5.cell (i := 2) (by simp)
    have f0 := hr5.free 0
    have f1 := hr5.free 1
    have f2 := hr5.free 2
    have hlt5 := hr5.lt
    clear hr5 y0 y1 y2 hra
    go_wp2
    refine bodyPost_ret (v := .tuple #[.agg #[.bool false, .slice none 0 0, .slice none 0 0], .int .i64 q1]) ?_ rfl ⟨⟨_, by rw [HQV.out.1], by rw [HQV.out.2, canR_zero]; exact HRA.out⟩, ?_⟩
    · simp [results, Tryz.results29, go_sem, Y.out.1, Y.out.2.1, Y.out.2.2]
    · exact ((HK5.out.store (by omega) _ _).store (by omega) _ _).store (by omega) _ _
end Go.Proofs.YtbkchheikkbebaaGreatDoor
