/-
  Walks: faultlineref32.vote.
-/
import Derived.Test.YtcgfjacidjebaaaR8
namespace Go.Proofs.Ytcgfjacidjebaaa
open Go.RowKit

theorem own_emptyF (w : World) (B : Nat) (hB : B ≤ w.heap.size) : OwnFams (w.alloc (.cells #[] 27)) B (.slice (some ⟨w.heap.size, 0, none⟩) 0 0) [] :=
  ⟨[], rfl, ⟨by simp, .inr ⟨w.heap.size, 0, #[], rfl, hB, heap_alloc_new w _, Nat.le_refl _, by unfold maxLen; omega, by simp, by simp⟩⟩, by simp, fun i h => by simp at h⟩
/-- Families stay while a row of families in another block is written. -/
theorem OwnFams.other {w : World} {B B' g n cap g2 n2 c2 : Nat} {xss tss : List (List Nat)} (h : OwnFams w B (.slice (some ⟨g2, 0, none⟩) n2 c2) xss) (ht : OwnFams w B' (.slice (some ⟨g, 0, none⟩) n cap) tss) (hn : n = tss.length) (hne : g2 ≠ g) (i : Nat) (u : Value) :
    OwnFams (w.setCell ⟨g, i, none⟩ u) B (.slice (some ⟨g2, 0, none⟩) n2 c2) xss := by
  obtain ⟨us, h1, ⟨h2, h2'⟩, h3, h4⟩ := h
  obtain ⟨ts, k1, k2, _, _⟩ := ht
  subst hn
  have h5 := k2.stored i u
  have hg : ∀ k, k < w.heap.size → some k ≠ (Value.slice (some ⟨g, 0, none⟩) tss.length cap).ownBlock → (w.setCell ⟨g, i, none⟩ u).heap[k]? = w.heap[k]? := fun k hk hne => h5.2.block k hk hne
  refine ⟨us, h1, ⟨h2, ?_⟩, h3, fun j hj hj' => (h4 j hj hj').tag k2 (by decide) hg⟩
  rcases h2' with ⟨h6, _⟩ | ⟨g', cap', cur, h6, h7, h8, h9⟩
  · cases h6
  · cases h6
    exact .inr ⟨g2, _, cur, rfl, h7, (hg g2 (heap_lt h8) (by intro e; exact hne (Option.some.inj e))).trans h8, h9⟩
theorem OwnSets.otherF {w : World} {B B' g n cap : Nat} {v : Value} {ns : List Nat} {tss : List (List Nat)} (h : OwnSets w B v ns) (ht : OwnFams w B' (.slice (some ⟨g, 0, none⟩) n cap) tss) (hn : n = tss.length) (i : Nat) (u : Value) : OwnSets (w.setCell ⟨g, i, none⟩ u) B v ns := by
  obtain ⟨ts, k1, k2, _, _⟩ := ht
  subst hn
  exact h.tag k2 (by decide) (fun k hk hne => (k2.stored i u).2.block k hk hne)
theorem voteUp_head (arg : List Nat) (t : List (List Nat)) : ∀ m acc, voteUp arg t m = some acc → acc = [0] :: acc.tail := by
  intro m
  induction m with
  | zero => intro acc h; cases h; rfl
  | succ m ih =>
    intro acc h
    unfold voteUp at h
    cases h1 : voteUp arg t m with
    | none => rw [h1] at h; cases h
    | some a =>
      rw [h1] at h
      simp only [Option.bind_some] at h
      cases h2 : nextAt arg t m with
      | none => rw [h2] at h; cases h
      | some x =>
        rw [h2] at h
        cases h
        have := ih a h1
        rw [this]; rfl
theorem set_mid (acc t : List (List Nat)) (m : Nat) (y : List Nat) (hl : acc.length = m + 1) (ht : m + 1 < t.length) : (acc ++ t.drop (m + 1)).set (m + 1) y = (acc ++ [y]) ++ t.drop (m + 1 + 1) := by
  rw [List.set_append_right _ _ (by omega), hl, Nat.sub_self, show (t.drop (m + 1)).set 0 y = y :: t.drop (m + 1 + 1) from by rw [List.drop_eq_getElem_cons ht]; rfl]
  simp
set_option maxRecDepth 100000 in
set_option maxHeartbeats 8000000 in
theorem rvote_any (v : Value) (args : List (List Nat)) (k : Nat) (w : World) (hv : FamsAt w v args) (hk1 : 1 ≤ k) (hk2 : k ≤ args.length) (hl9 : args.length ≤ 1000) :
    Calls Try.prog 57 #[v, .int .i64 k] w fun e w' => RRes w' e (voteK args k) ∧ Kept w w' := by
  obtain ⟨a, c, rfl, _, hl, hx⟩ := hv
  obtain ⟨n, hn⟩ : ∃ n, n = args.length := ⟨_, rfl⟩
  rw [← hn] at hl hk2 hl9 ⊢
  obtain ⟨r, hr⟩ : ∃ r, r = voteK args k := ⟨_, rfl⟩
  rw [← hr]
  have HR := Lib.hid hr
  have HX := Lib.hid hx
  have HN := Lib.hid hn
  have hHop := @rproduct_any
  have HPr := Lib.hid hHop
  have hHop2 := @rplus_any
  have HPl := Lib.hid hHop2
  clear hx hn hr hl hHop hHop2
  go_enter Try.func57, Try.ntmps57
  go_wp2_with (at_make; refine make_fam rfl _ _ rfl (k + 1) (by show Value.int .i64 ((k : Int) + 1) = .int .i64 ((k + 1 : Nat) : Int); rw [Int.natCast_add]; rfl) (by show Value.int .i64 ((k : Int) + 1) = .int .i64 ((k + 1 : Nat) : Int); rw [Int.natCast_add]; rfl) (by omega) ?_; intro w1 ho1 hk1' hz1; obtain ⟨u0, hc0, _⟩ := ho1.cell 0 (by simp); have hf0 := ho1.free 0; have hz1n : ¬ w1.heap.size = w.heap.size := (by omega); have O1 := Lib.hid ho1; clear ho1)
  have hko : Kept w ((w1.setCell ⟨w.heap.size, 0, none⟩ (.slice (some ⟨w1.heap.size, 0, none⟩) 1 1)).alloc (.cells #[.int .i64 0] 3)) := ((hk1'.store (Nat.le_refl _) _ _).alloc _)
  have ht0 : OwnFams ((w1.setCell ⟨w.heap.size, 0, none⟩ (.slice (some ⟨w1.heap.size, 0, none⟩) 1 1)).alloc (.cells #[.int .i64 0] 3)) w.heap.size (.slice (some ⟨w.heap.size, 0, none⟩) (k + 1) (k + 1)) ([0] :: List.replicate k []) := by
    have h1 := (O1.out.kept ((Kept.refl _).alloc (.cells #[.int .i64 0] 3))).store (by simp) 0 (OwnSets.one w1 0 0 (by unfold Mk; omega) (Nat.zero_le _))
    rw [List.replicate_succ] at h1
    rw [← World.setCell_alloc_past _ _ _ _ hz1]
    exact h1
  have HT0 := Lib.hid ht0
  have HKO := Lib.hid hko
  clear ht0 hko hc0 hf0 hk1'
  go_loopw [7, 8, 9, 10, 11] (fun i _ _ _ _ wr => ∃ (q : Nat) (t : List (List Nat)), q ≤ n ∧ i = .int .i64 ((q : Int) - 1) ∧ t.length = k + 1 ∧ OwnFams wr w.heap.size (.slice (some ⟨w.heap.size, 0, none⟩) (k + 1) (k + 1)) t ∧ Hid (((voteDown k args q t).map (fun t => t.getD k []) = r) ∧ t = [0] :: t.tail) ∧ Kept w wr) (fun i _ _ _ _ _ => (intOf i + 1).toNat)
  case atStart => exact ⟨n, _, Nat.le_refl _, rfl, by simp, HT0.out, Lib.hid ⟨by rw [HR.out, HN.out]; rfl, rfl⟩, HKO.out⟩
  case round =>
    clear HT0 HKO O1
    obtain ⟨q, t, hq, rfl, htl, hot, HG, hK⟩ := hrel
    by_cases hpos : 0 < q
    · obtain ⟨p, rfl⟩ : ∃ p, q = p + 1 := ⟨q - 1, by omega⟩
      have e1 : ((p + 1 : Nat) : Int) - 1 = (p : Int) := by omega
      rw [e1]
      have hpx : p < args.length := by have := HN.out; omega
      have hpn : (p : Int) < (n : Int) := by omega
      obtain ⟨b, o, u, rfl, hc0, hu⟩ := HX.out p hpx
      have hgo : voteDown k args (p + 1) t = (voteUp args[p] t k).bind (voteDown k args p) := by
        show (voteUp (args.getD p []) t k).bind (voteDown k args p) = _
        rw [show args.getD p [] = args[p] by simp [List.getD_eq_getElem?_getD, hpx]]
      have hg := HG.out.1
      have HTH := Lib.hid HG.out.2
      rw [hgo] at hg
      obtain ⟨arg, harg⟩ : ∃ x, x = args[p] := ⟨_, rfl⟩
      rw [← harg] at hu hg
      have HG2 := Lib.hid hg
      have HU := Lib.hid hu
      have HC0 := Lib.hid hc0
      have HOT := Lib.hid hot
      have HK := Lib.hid hK
      have hsz := hK.size
      have hgl : w.heap.size < wr.heap.size := by
        obtain ⟨g', c', hge, _, hgl, _⟩ := hot.shape (by intro e; rw [e] at htl; simp at htl)
        injection hge with h1
        injection h1 with h1
        injection h1 with h1
        rw [h1]; exact hgl
      clear e1 hgo hg harg hu hc0 hot hK HG
      obtain ⟨wo, rfl⟩ : ∃ wo : World, wo = wr := ⟨_, rfl⟩
      have hb1 : OwnFams (wo.alloc (.cells #[] 27)) w.heap.size (.slice (some ⟨w.heap.size, 0, none⟩) t.length (k + 1)) t := by rw [htl]; exact HOT.out.kept ((Kept.refl _).alloc _)
      have HB1 := Lib.hid hb1
      clear hb1
      go_wp2_with (at_builtin; refine app_fams rfl _ _ rfl wo.heap.size _ [] rfl (own_emptyF wo _ (Nat.le_refl _)) w.heap.size w.heap.size (k + 1) t (by rw [htl]; rfl) HB1.out (by simp; omega) (by simp) ?_; intro v8 w8 hown8 hb8; have O8 := Lib.hid hown8; have HB8 := Lib.hid (((Kept.refl wo).alloc _).app (hb8.mono (by simp))); clear hown8 hb8)
      have ho8 := O8.out
      simp only [List.nil_append] at ho8
      obtain ⟨g8, c8, rfl, hg8, _, hcap8⟩ := ho8.shape (by intro e; rw [e] at htl; simp at htl)
      rw [htl] at ho8 hcap8 ⊢
      have HO8 := Lib.hid ho8
      have HT8 := Lib.hid (HOT.out.kept HB8.out)
      have hgg : g8 ≠ w.heap.size := by omega
      have hK8 := HK.out.trans HB8.out
      have HK8 := Lib.hid hK8
      clear ho8 O8 HB1 hK8
      go_loopw [9, 10, 11] (fun j _ _ wi => ∃ (m : Nat) (acc : List (List Nat)), m ≤ k ∧ j = .int .i64 ((m : Int) + 1) ∧ Hid (OwnFams wi w.heap.size (.slice (some ⟨w.heap.size, 0, none⟩) (k + 1) (k + 1)) (acc ++ t.drop (m + 1)) ∧ OwnFams wi wo.heap.size (.slice (some ⟨g8, 0, none⟩) (k + 1) c8) t ∧ voteUp arg t m = some acc) ∧ Kept w wi) (fun j _ _ _ => k + 1 - (intOf j).toNat)
      case atStart =>
        refine ⟨0, [[0]], Nat.zero_le _, rfl, Lib.hid ⟨?_, HO8.out, rfl⟩, HK8.out⟩
        have h8 := HT8.out
        rw [HTH.out] at h8
        simpa using h8
      case round =>
        obtain ⟨m, acc, hm, rfl, HI, hKi⟩ := hrel
        have hsi := hKi.size
        have HKI := Lib.hid hKi
        have hal := len_voteUp arg t m acc HI.out.2.2
        by_cases hmk : m < k
        · have hcu := HKI.out.cell HC0.out
          have huw := HU.out.kept HKI.out
          obtain ⟨um, hcm, hum0⟩ := HI.out.2.1.cell m (by omega)
          obtain ⟨um1, hcm1, hum10⟩ := HI.out.2.1.cell (m + 1) (by omega)
          obtain ⟨ut, hct, _⟩ := HI.out.1.cell (m + 1) (by simp; omega)
          have hft := HI.out.1.free (m + 1)
          have hum := hum0.sets
          have hum1 := hum10.sets
          obtain ⟨tm, htm⟩ : ∃ x, x = t[m] := ⟨_, rfl⟩
          obtain ⟨tm1, htm1⟩ : ∃ x, x = t[m + 1] := ⟨_, rfl⟩
          rw [← htm] at hum
          rw [← htm1] at hum1
          have hnx : nextAt arg t m = (productK arg tm).bind fun x => plusK x tm1 := by
            unfold nextAt
            rw [show t.getD m [] = tm by rw [htm]; simp [List.getD_eq_getElem?_getD, show m < t.length by omega], show t.getD (m + 1) [] = tm1 by rw [htm1]; simp [List.getD_eq_getElem?_getD, show m + 1 < t.length by omega]]
          have hvu : voteUp arg t (m + 1) = (nextAt arg t m).map fun x => acc ++ [x] := by
            show ((voteUp arg t m).bind fun acc => (nextAt arg t m).map fun x => acc ++ [x]) = _
            rw [HI.out.2.2]; rfl
          have HNX := Lib.hid hnx
          have HVU := Lib.hid hvu
          have HUW := Lib.hid huw
          have HUM := Lib.hid hum
          have HUM1 := Lib.hid hum1
          have HCT := Lib.hid hct
          have HFT := Lib.hid hft
          have hbl := World.block_lt_of_cell? _ _ hct
          have hi1 : (m : Int) < ((k + 1 : Nat) : Int) ∧ (m : Int) + 1 < ((k + 1 : Nat) : Int) := by omega
          have hi2 : (m : Int) + 1 ≤ (k : Int) := by omega
          clear hnx hvu huw hum hum1 hum0 hum10 htm htm1 hKi hct hft
          cases hp : productK arg tm with
          | none =>
            have HP := Lib.hid hp
            clear hp
            have hw1 := wrapS m (by omega)
            have hw3 := wrapT m (by omega)
            have hw2 : (0 : Int) ≤ (m : Int) ∧ (m : Int) < (k : Int) + 1 := by omega
            go_wp2
            go_region_held3 (fun w' => w'.cell? ⟨b, o + p, none⟩ = some u ∧ w'.cell? ⟨g8, m, none⟩ = some um)
              (first | go_keep | exact ⟨hk5.cell hcu, hk5.cell hcm⟩)
              (first | (go_at_call 81; refine (HPr.out arg tm u um _ (HUW.out.kept (Kept.refl _).drew) (HUM.out.kept (Kept.refl _).drew)).mono ?_; rintro e w5 ⟨he, hk5⟩; rw [HP.out] at he; unfold RRes at he; subst he))
            go_wp2
            go_ret2
            have hrn : r = none := by
              rw [← HG2.out, voteUp_none arg t (m + 1) (by rw [HVU.out, HNX.out, HP.out]; rfl) k (by omega)]; rfl
            exact ⟨by rw [hrn]; rfl, HKI.out.trans ((Kept.refl _).drew.trans hk5)⟩
          | some x =>
            have HP := Lib.hid hp
            clear hp
            have hw1 := wrapS m (by omega)
            have hw3 := wrapT m (by omega)
            have hw2 : (0 : Int) ≤ (m : Int) ∧ (m : Int) < (k : Int) + 1 := by omega
            cases hq2 : plusK x tm1 with
            | none =>
              have HQ := Lib.hid hq2
              clear hq2
              go_wp2
              go_region_held3 (fun w' => w'.cell? ⟨b, o + p, none⟩ = some u ∧ w'.cell? ⟨g8, m, none⟩ = some um)
                (first | go_keep | exact ⟨hk5.cell hcu, hk5.cell hcm⟩)
                (first | (go_at_call 81; refine (HPr.out arg tm u um _ (HUW.out.kept (Kept.refl _).drew) (HUM.out.kept (Kept.refl _).drew)).mono ?_; rintro e w5 ⟨he, hk5⟩; rw [HP.out] at he; unfold RRes at he; obtain ⟨v5, rfl, ho5⟩ := he; have O5 := Lib.hid ho5; clear ho5))
              have hk5' : Kept wr w5 := (Kept.refl _).drew.trans hk5
              have hcm1' := hk5'.cell hcm1
              clear hw1 hw3
              go_wp2_with (go_at_call 82; refine (HPl.out x tm1 v5 um1 _ O5.out.sets (HUM1.out.kept hk5')).mono ?_; rintro e w6 ⟨he, hk6⟩; rw [HQ.out] at he; unfold RRes at he; subst he; have hct6 := (hk5'.trans hk6).cell HCT.out; have hft6 := (hk5'.trans hk6).free hbl HFT.out)
              go_ret2
              have hrn : r = none := by
                rw [← HG2.out, voteUp_none arg t (m + 1) (by rw [HVU.out, HNX.out, HP.out]; simp [HQ.out]) k (by omega)]; rfl
              exact ⟨by rw [hrn]; rfl, ((HKI.out.trans hk5').trans hk6).store (Nat.le_refl _) _ _⟩
            | some y =>
              have HQ := Lib.hid hq2
              clear hq2
              go_wp2
              go_region_held3 (fun w' => w'.cell? ⟨b, o + p, none⟩ = some u ∧ w'.cell? ⟨g8, m, none⟩ = some um)
                (first | go_keep | exact ⟨hk5.cell hcu, hk5.cell hcm⟩)
                (first | (go_at_call 81; refine (HPr.out arg tm u um _ (HUW.out.kept (Kept.refl _).drew) (HUM.out.kept (Kept.refl _).drew)).mono ?_; rintro e w5 ⟨he, hk5⟩; rw [HP.out] at he; unfold RRes at he; obtain ⟨v5, rfl, ho5⟩ := he; have O5 := Lib.hid ho5; clear ho5))
              have hk5' : Kept wr w5 := (Kept.refl _).drew.trans hk5
              have hcm1' := hk5'.cell hcm1
              clear hw1 hw3
              go_wp2_with (go_at_call 82; refine (HPl.out x tm1 v5 um1 _ O5.out.sets (HUM1.out.kept hk5')).mono ?_; rintro e w6 ⟨he, hk6⟩; rw [HQ.out] at he; unfold RRes at he; obtain ⟨v6, rfl, ho6⟩ := he; have O6 := Lib.hid ho6; obtain ⟨xa, xn, xc, rfl⟩ := ho6.1.ints.shape; clear ho6; have hct6 := (hk5'.trans hk6).cell HCT.out; have hft6 := (hk5'.trans hk6).free hbl HFT.out)
              have HK6 := Lib.hid (hk5'.trans hk6)
              go_roundw
              case rel =>
                have hlen : (acc ++ t.drop (m + 1)).length = k + 1 := by simp; omega
                refine ⟨m + 1, acc ++ [y], by omega, by go_num, Lib.hid ⟨?_, (HI.out.2.1.kept HK6.out).other (HI.out.1.kept HK6.out) hlen.symm hgg _ _, by rw [HVU.out, HNX.out, HP.out]; simp [HQ.out]⟩, (HKI.out.trans HK6.out).store (Nat.le_refl _) _ _⟩
                have h7 := (HI.out.1.kept HK6.out).store hlen.symm (m + 1) O6.out
                rw [set_mid acc t m y hal (by omega)] at h7
                exact h7
              case measure => simp [intOf]; omega
        · have e : m = k := by omega
          subst e
          have h2 := HG2.out
          rw [HI.out.2.2] at h2
          have H2 := Lib.hid h2
          have hfin : acc ++ t.drop (m + 1) = acc := by rw [List.drop_of_length_le (by omega)]; simp
          have HF := Lib.hid hfin
          clear h2 hKi hfin
          go_wp2
          go_roundw
          case rel => exact ⟨p, acc, by omega, by go_num, hal, by have := HI.out.1; rw [HF.out] at this; exact this, Lib.hid ⟨by simpa using H2.out, voteUp_head arg t m acc HI.out.2.2⟩, HKI.out⟩
          case measure => simp [intOf]
    · have e : q = 0 := by omega
      subst e
      obtain ⟨uk, hck, huk⟩ := hot.cell k (by omega)
      have hki : (k : Int) < ((k + 1 : Nat) : Int) := by omega
      have hki2 : (k : Int) < (k : Int) + 1 := by omega
      have hrr : r = some t[k] := by
        rw [← HG.out.1]
        show some (t.getD k []) = _
        rw [show t.getD k [] = t[k] by simp [List.getD_eq_getElem?_getD, show k < t.length by omega]]
      have HRR := Lib.hid hrr
      have HUK := Lib.hid huk
      clear hrr huk hot
      go_wp2
      go_ret2
      exact ⟨by rw [HRR.out]; exact ⟨_, rfl, HUK.out⟩, hK⟩
end Go.Proofs.Ytcgfjacidjebaaa
