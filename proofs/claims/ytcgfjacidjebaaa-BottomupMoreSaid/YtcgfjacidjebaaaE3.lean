/-
  Walks: bottomup.vote.
-/
import Derived.Test.YtcgfjacidjebaaaE2
import Derived.Deep.RegionHeld3
import Derived.IntWalk
import Derived.StillTailTactics
namespace Go.Proofs.Ytcgfjacidjebaaa
open Go.RowKit

theorem wrapT (m : Nat) (h : m ≤ 100000) : IntKind.i64.wrap (m : Int) = (m : Int) := IntWalk.i64_in _ (by omega)
theorem wrapS (m : Nat) (h : m ≤ 100000) : IntKind.i64.wrap ((m : Int) + 1 - 1) = (m : Int) := by
  rw [show (m : Int) + 1 - 1 = (m : Int) by omega]; exact wrapT m h
set_option maxRecDepth 100000 in
set_option maxHeartbeats 8000000 in
theorem vote_any (v : Value) (args : List (List Nat)) (k : Nat) (w : World) (hv : FamsAt w v args) (hk1 : 1 ≤ k) (hk2 : k ≤ args.length) (hl9 : args.length ≤ 1000) :
    Calls Try.prog 80 #[v, .int .i64 k] w fun e w' => LRes w' 0 e (voteK args k) ∧ Kept w w' := by
  obtain ⟨a, c, rfl, _, hl, hx⟩ := hv
  obtain ⟨n, hn⟩ : ∃ n, n = args.length := ⟨_, rfl⟩
  rw [← hn] at hl hk2 hl9 ⊢
  obtain ⟨r, hr⟩ : ∃ r, r = voteK args k := ⟨_, rfl⟩
  rw [← hr]
  have HR := Lib.hid hr
  have HX := Lib.hid hx
  have HN := Lib.hid hn
  have hHop := @product_any
  have HPr := Lib.hid hHop
  have hHop2 := @plus_any
  have HPl := Lib.hid hHop2
  clear hx hn hr hl hHop hHop2
  go_enter Try.func80, Try.ntmps80
  go_wp2_with (at_make; refine make_fam rfl _ _ rfl (k + 1) (by show Value.int .i64 ((k : Int) + 1) = .int .i64 ((k + 1 : Nat) : Int); rw [Int.natCast_add]; rfl) (by show Value.int .i64 ((k : Int) + 1) = .int .i64 ((k + 1 : Nat) : Int); rw [Int.natCast_add]; rfl) (by omega) ?_; intro w1 ho1 hk1' hz1; obtain ⟨u0, hc0, _⟩ := ho1.cell 0 (by simp); have hf0 := ho1.free 0; have hz1n : ¬ w1.heap.size = w.heap.size := (by omega); have O1 := Lib.hid ho1; clear ho1)
  have hko : Kept w ((w1.setCell ⟨w.heap.size, 0, none⟩ (.slice (some ⟨w1.heap.size, 0, none⟩) 1 1)).alloc (.cells #[.int .i64 0] 3)) := ((hk1'.store (Nat.le_refl _) _ _).alloc _)
  have ht0 : OwnFams ((w1.setCell ⟨w.heap.size, 0, none⟩ (.slice (some ⟨w1.heap.size, 0, none⟩) 1 1)).alloc (.cells #[.int .i64 0] 3)) w.heap.size (.slice (some ⟨w.heap.size, 0, none⟩) (k + 1) (k + 1)) ([0] :: List.replicate k []) := by
    have h1 := (O1.out.kept ((Kept.refl _).alloc (.cells #[.int .i64 0] 3))).store (by simp) 0 (OwnSets.one w1 0 0 (by unfold Mk; omega) (Nat.zero_le _))
    rw [List.replicate_succ] at h1
    rw [← World.setCell_alloc_past _ _ _ _ hz1]
    exact h1
  have HT0 := Lib.hid ht0
  have HKO := Lib.hid hko
  clear ht0 hko hc0 hf0 hk1'
  go_loopw [6, 7, 8, 9, 10, 11, 12] (fun tv i _ _ _ _ _ wr => ∃ (q : Nat) (t : List (List Nat)), q ≤ n ∧ i = .int .i64 ((q : Int) - 1) ∧ t.length = k + 1 ∧ OwnFams wr w.heap.size tv t ∧ Hid ((voteDown k args q t).map (fun t => t.getD k []) = r) ∧ Kept w wr) (fun _ i _ _ _ _ _ _ => (intOf i + 1).toNat)
  case atStart => exact ⟨n, _, Nat.le_refl _, rfl, by simp, HT0.out, Lib.hid (by rw [HR.out, HN.out]; rfl), HKO.out⟩
  case round =>
    clear HT0 HKO O1
    obtain ⟨q, t, hq, rfl, htl, hot, HG, hK⟩ := hrel
    obtain ⟨g, tc, rfl, hg1, hg2, hcap⟩ := hot.shape (by intro e; rw [e] at htl; simp at htl)
    rw [htl]
    rw [htl] at hot hcap
    by_cases hpos : 0 < q
    · obtain ⟨p, rfl⟩ : ∃ p, q = p + 1 := ⟨q - 1, by omega⟩
      have e1 : ((p + 1 : Nat) : Int) - 1 = (p : Int) := by omega
      rw [e1]
      have hpx : p < args.length := by have := HN.out; omega
      have hpn : (p : Int) < (n : Int) := by omega
      obtain ⟨b, o, u, rfl, hc0, hu⟩ := HX.out p hpx
      have hgo : voteDown k args (p + 1) t = (voteUp args[p] t k).bind (voteDown k args p) := by
        show (voteUp (args.getD p []) t k).bind (voteDown k args p) = _
        rw [show args.getD p [] = args[p] by simp [List.getD_eq_getElem?_getD, hpx]]
      have hg := HG.out
      rw [hgo] at hg
      obtain ⟨arg, harg⟩ : ∃ x, x = args[p] := ⟨_, rfl⟩
      rw [← harg] at hu hg
      have HG2 := Lib.hid hg
      have HU := Lib.hid hu
      have HC0 := Lib.hid hc0
      have HOT := Lib.hid hot
      have HK := Lib.hid hK
      have hsz := hK.size
      clear e1 hgo hg harg hu hc0 hot hK HG
      go_wp2
      obtain ⟨wo, rfl⟩ : ∃ wo : World, wo = wr := ⟨_, rfl⟩
      have hst : OwnFams ((wo.alloc (.cells #[.int .i64 0] 3)).alloc (.cells #[.slice (some ⟨wo.heap.size, 0, none⟩) 1 1] 27)) wo.heap.size (.slice (some ⟨wo.heap.size + 1, 0, none⟩) 1 1) [[0]] := by
        have := OwnFams.one (B := wo.heap.size) (OwnSets.one wo 0 0 (by unfold Mk; omega) (Nat.zero_le _)) (by simp)
        simpa using this
      have HST := Lib.hid hst
      clear hst
      go_loopw [8, 9, 10, 11, 12] (fun nv j _ _ _ wi => ∃ (m : Nat) (acc : List (List Nat)), m ≤ k ∧ j = .int .i64 ((m : Int) + 1) ∧ OwnFams wi wo.heap.size nv acc ∧ Hid (voteUp arg t m = some acc) ∧ Kept wo wi) (fun _ j _ _ _ _ => k + 1 - (intOf j).toNat)
      case atStart => exact ⟨0, [[0]], Nat.zero_le _, rfl, HST.out, Lib.hid rfl, ((Kept.refl _).alloc _).alloc _⟩
      case round =>
        clear HST
        obtain ⟨m, acc, hm, rfl, hon, HV, hKi⟩ := hrel
        have hsi := hKi.size
        by_cases hmk : m < k
        · have hcu := (HK.out.trans hKi).cell HC0.out
          have huw := HU.out.kept (HK.out.trans hKi)
          obtain ⟨um, hcm0, hum0⟩ := HOT.out.cell m (by omega)
          obtain ⟨um1, hcm10, hum10⟩ := HOT.out.cell (m + 1) (by omega)
          have hcm := hKi.cell hcm0
          have hcm1 := hKi.cell hcm10
          have hum := (hum0.kept hKi).sets
          have hum1 := (hum10.kept hKi).sets
          obtain ⟨tm, htm⟩ : ∃ x, x = t[m] := ⟨_, rfl⟩
          obtain ⟨tm1, htm1⟩ : ∃ x, x = t[m + 1] := ⟨_, rfl⟩
          rw [← htm] at hum
          rw [← htm1] at hum1
          have hnx : nextAt arg t m = (productK arg tm).bind fun x => plusK x tm1 := by
            unfold nextAt
            rw [show t.getD m [] = tm by rw [htm]; simp [List.getD_eq_getElem?_getD, show m < t.length by omega], show t.getD (m + 1) [] = tm1 by rw [htm1]; simp [List.getD_eq_getElem?_getD, show m + 1 < t.length by omega]]
          have hvu : voteUp arg t (m + 1) = (nextAt arg t m).map fun x => acc ++ [x] := by
            show ((voteUp arg t m).bind fun acc => (nextAt arg t m).map fun x => acc ++ [x]) = _
            rw [HV.out]; rfl
          have hal := len_voteUp arg t m acc HV.out
          have HNX := Lib.hid hnx
          have HVU := Lib.hid hvu
          have HUW := Lib.hid huw
          have HUM := Lib.hid hum
          have HUM1 := Lib.hid hum1
          have HON := Lib.hid hon
          have HKI := Lib.hid hKi
          have hi1 : (m : Int) < ((k + 1 : Nat) : Int) ∧ (m : Int) + 1 < ((k + 1 : Nat) : Int) := by omega
          have hi2 : (m : Int) + 1 ≤ (k : Int) := by omega
          clear hnx hvu huw hum hum1 hon hum0 hum10 hcm0 hcm10 htm htm1 hKi
          cases hp : productK arg tm with
          | none =>
            have HP := Lib.hid hp
            clear hp
            have hw1 := wrapS m (by omega)
            have hw3 := wrapT m (by omega)
            have hw2 : (0 : Int) ≤ (m : Int) ∧ (m : Int) < (k : Int) + 1 := by omega
            go_wp2
            go_region_held3 (fun w' => w'.cell? ⟨b, o + p, none⟩ = some u ∧ w'.cell? ⟨g, m, none⟩ = some um)
              (first | go_keep | exact ⟨hk5.cell hcu, hk5.cell hcm⟩)
              (first | (go_at_call 44; refine (HPr.out arg tm u um _ (HUW.out.kept (Kept.refl _).drew) (HUM.out.kept (Kept.refl _).drew)).mono ?_; rintro e w5 ⟨he, hk5⟩; rw [HP.out] at he; unfold LRes at he; subst he; rw [errV_pos (show (4 : Nat) ≠ 0 by decide)]))
            go_wp2
            go_ret2
            have hrn : r = none := by
              rw [← HG2.out, voteUp_none arg t (m + 1) (by rw [HVU.out, HNX.out, HP.out]; rfl) k (by omega)]; rfl
            exact ⟨by rw [hrn]; rfl, (HK.out.trans HKI.out).trans ((Kept.refl _).drew.trans hk5)⟩
          | some x =>
            have HP := Lib.hid hp
            clear hp
            have hw1 := wrapS m (by omega)
            have hw3 := wrapT m (by omega)
            have hw2 : (0 : Int) ≤ (m : Int) ∧ (m : Int) < (k : Int) + 1 := by omega
            cases hq2 : plusK x tm1 with
            | none =>
              have HQ := Lib.hid hq2
              clear hq2
              go_wp2
              go_region_held3 (fun w' => w'.cell? ⟨b, o + p, none⟩ = some u ∧ w'.cell? ⟨g, m, none⟩ = some um)
                (first | go_keep | exact ⟨hk5.cell hcu, hk5.cell hcm⟩)
                (first | (go_at_call 44; refine (HPr.out arg tm u um _ (HUW.out.kept (Kept.refl _).drew) (HUM.out.kept (Kept.refl _).drew)).mono ?_; rintro e w5 ⟨he, hk5⟩; rw [HP.out] at he; unfold LRes at he; obtain ⟨v5, rfl, ho5⟩ := he; have O5 := Lib.hid ho5; clear ho5))
              have hk5' : Kept wr w5 := (Kept.refl _).drew.trans hk5
              have hcm1' := hk5'.cell hcm1
              clear hw1 hw3
              go_wp2_with (go_at_call 45; refine (HPl.out x tm1 v5 um1 _ O5.out.sets (HUM1.out.kept hk5')).mono ?_; rintro e w6 ⟨he, hk6⟩; rw [HQ.out] at he; unfold LRes at he; subst he; rw [errV_pos (show (4 : Nat) ≠ 0 by decide)])
              go_ret2
              have hrn : r = none := by
                rw [← HG2.out, voteUp_none arg t (m + 1) (by rw [HVU.out, HNX.out, HP.out]; simp [HQ.out]) k (by omega)]; rfl
              exact ⟨by rw [hrn]; rfl, ((HK.out.trans HKI.out).trans hk5').trans hk6⟩
            | some y =>
              have HQ := Lib.hid hq2
              clear hq2
              go_wp2
              go_region_held3 (fun w' => w'.cell? ⟨b, o + p, none⟩ = some u ∧ w'.cell? ⟨g, m, none⟩ = some um)
                (first | go_keep | exact ⟨hk5.cell hcu, hk5.cell hcm⟩)
                (first | (go_at_call 44; refine (HPr.out arg tm u um _ (HUW.out.kept (Kept.refl _).drew) (HUM.out.kept (Kept.refl _).drew)).mono ?_; rintro e w5 ⟨he, hk5⟩; rw [HP.out] at he; unfold LRes at he; obtain ⟨v5, rfl, ho5⟩ := he; have O5 := Lib.hid ho5; clear ho5))
              have hk5' : Kept wr w5 := (Kept.refl _).drew.trans hk5
              have hcm1' := hk5'.cell hcm1
              clear hw1 hw3
              go_wp2_with (first
                | (go_at_call 45; refine (HPl.out x tm1 v5 um1 _ O5.out.sets (HUM1.out.kept hk5')).mono ?_; rintro e w6 ⟨he, hk6⟩; rw [HQ.out] at he; unfold LRes at he; obtain ⟨v6, rfl, ho6⟩ := he; have hz6 := hk6.size; have hz5 := hk5'.size; obtain ⟨xa, xn, xc, rfl⟩ := ho6.1.ints.shape; have O6 := Lib.hid ho6; clear ho6)
                | (at_builtin; refine app_fam rfl _ _ rfl wo.heap.size _ acc rfl (HON.out.kept (((hk5'.trans hk6).alloc _))) _ _ y rfl (by simp) ((O6.out.mono (Nat.zero_le _)).kept ((Kept.refl _).alloc _)) (by omega) (by simp; omega) ?_; intro nv' w7 hown7 hg7 hb7; have O7 := Lib.hid hown7; clear hown7))
              go_roundw
              case rel => exact ⟨m + 1, _, by omega, by go_num, O7.out, Lib.hid (by rw [HVU.out, HNX.out, HP.out]; simp [HQ.out]), HKI.out.trans hk5' |>.trans hk6 |>.alloc _ |>.app hb7⟩
              case measure => simp [intOf]; omega
        · have e : m = k := by omega
          subst e
          have hal := len_voteUp arg t m acc HV.out
          have h2 := HG2.out
          rw [HV.out] at h2
          have H2 := Lib.hid h2
          have HON := Lib.hid (hon.mono hsz)
          have HKI := Lib.hid hKi
          clear h2 hon hKi
          go_wp2
          go_roundw
          case rel => exact ⟨p, acc, by omega, by go_num, hal, HON.out, Lib.hid (by simpa using H2.out), HK.out.trans HKI.out⟩
          case measure => simp [intOf]
    · have e : q = 0 := by omega
      subst e
      obtain ⟨uk, hck, huk⟩ := hot.cell k (by omega)
      have hki : (k : Int) < ((k + 1 : Nat) : Int) := by omega
      have hki2 : (k : Int) < (k : Int) + 1 := by omega
      have hrr : r = some t[k] := by
        rw [← HG.out]
        show some (t.getD k []) = _
        rw [show t.getD k [] = t[k] by simp [List.getD_eq_getElem?_getD, show k < t.length by omega]]
      have HRR := Lib.hid hrr
      have HUK := Lib.hid huk
      clear hrr huk hot
      go_wp2
      go_ret2
      exact ⟨by rw [HRR.out]; exact ⟨_, rfl, HUK.out⟩, hK⟩
end Go.Proofs.Ytcgfjacidjebaaa
