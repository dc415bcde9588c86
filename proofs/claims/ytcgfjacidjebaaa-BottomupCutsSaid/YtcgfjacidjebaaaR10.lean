/-
  Walks: faultlineref32.Families.
-/
import Derived.Test.YtcgfjacidjebaaaR9
import Derived.Test.YtcgfjacidjebaaaP6
namespace Go.Proofs.Ytcgfjacidjebaaa
open Go.RowKit

def RFRes (w' : World) (B : Nat) (e : Ending) (r : Option (List (List Nat))) : Prop :=
  match r with
  | some l => ∃ v, e = .returned (.tuple #[v, .int .i64 0]) ∧ OwnFams w' B v l
  | none => e = .returned (.tuple #[.slice none 0 0, .int .i64 4])
theorem OwnFams.slice {w : World} {B : Nat} {v : Value} {xss : List (List Nat)} (h : OwnFams w B v xss) : ∃ a n c, v = .slice a n c := by
  obtain ⟨us, _, ⟨_, h⟩, _⟩ := h
  rcases h with ⟨rfl, _⟩ | ⟨g, cp, _, rfl, _⟩
  · exact ⟨_, _, _, rfl⟩
  · exact ⟨_, _, _, rfl⟩
theorem famsUp_late (V : Nat) (mark : List Bool) (nodes : List Nd) : ∀ k out, famsUp V mark nodes k = some out → ∀ i, k ≤ i → out.getD i [] = [] := by
  intro k
  induction k with
  | zero =>
    intro out h i _
    cases h
    rw [List.getD_eq_getElem?_getD]
    by_cases hi : i < nodes.length
    · simp [hi]
    · simp [hi]
  | succ k ih =>
    intro out h i hi
    unfold famsUp at h
    cases h1 : famsUp V mark nodes k with
    | none => rw [h1] at h; cases h
    | some o =>
      rw [h1] at h
      simp only [Option.bind_some, famStep] at h
      split at h
      · cases h2 : nodeK (nodes.getD k noNd).kind (nodes.getD k noNd).k ((nodes.getD k noNd).args.map (famArg V o)) with
        | none => rw [h2] at h; cases h
        | some l =>
          rw [h2] at h
          cases h
          rw [List.getD_eq_getElem?_getD, List.getElem?_set_ne (by omega), ← List.getD_eq_getElem?_getD]
          exact ih o h1 i (by omega)
      · cases h; exact ih _ h1 i (by omega)
theorem famsUp_tail (V : Nat) (mark : List Bool) (nodes : List Nd) (k : Nat) (out : List (List Nat)) (h : famsUp V mark nodes k = some out) : out.set k [] = out := by
  have h1 := famsUp_late V mark nodes k out h k (Nat.le_refl _)
  apply List.ext_getElem?
  intro i
  by_cases e : k = i
  · subst e
    by_cases hk : k < out.length
    · rw [List.getElem?_set_self hk, ← h1, List.getD_eq_getElem?_getD, List.getElem?_eq_getElem hk]; rfl
    · rw [List.getElem?_eq_none (by simpa using hk), List.getElem?_eq_none (by omega)]
  · rw [List.getElem?_set_ne e]
set_option maxRecDepth 100000 in
set_option maxHeartbeats 2000000 in
theorem rfamilies_typed (v : Value) (f : Fm) (V T : Nat) (w : World) (hv : NodesAt w v f.nodes) (hok : Ok f V T) (hs : synK V T f = false) :
    Calls Try.prog 24 #[.agg #[.int .i64 V, v, .int .i64 T]] w fun e w' => e = .returned (.tuple #[.slice none 0 0, .int .i64 7]) ∧ Kept w w' := by
  have h : ∀ W, Kept w W → Calls Try.prog 55 #[.agg #[.int .i64 V, v, .int .i64 T]] W fun e w' => e = .returned (.int .i64 7) ∧ Kept W w' := fun W hk => by
    have := typed_any v f V T W (hv.kept hk) hok
    rw [hs] at this; exact this
  have H := Lib.hid h
  obtain ⟨a, c, rfl, _⟩ := hv
  clear hok hs h
  go_enter Try.func24, Try.ntmps24
  go_wp2_with (go_at_call 55; refine (H.out _ ((Kept.refl _).alloc _)).mono ?_; rintro e w1 ⟨rfl, hk1⟩)
  go_ret2
  exact ⟨rfl, (((Kept.refl _).alloc _).trans hk1)⟩
set_option maxRecDepth 100000 in
set_option maxHeartbeats 16000000 in
theorem rfamilies_ok (v : Value) (f : Fm) (V T : Nat) (w : World) (hv : NodesAt w v f.nodes) (hok : Ok f V T) (hs : synK V T f = true) :
    Calls Try.prog 24 #[.agg #[.int .i64 V, v, .int .i64 T]] w fun e w' => RFRes w' 0 e (famsK V T f.nodes) ∧ Kept w w' := by
  have h1 : ∀ W, Kept w W → Calls Try.prog 55 #[.agg #[.int .i64 V, v, .int .i64 T]] W fun e w' => e = .returned (.int .i64 0) ∧ Kept W w' := fun W hk => by
    have := typed_any v f V T W (hv.kept hk) hok
    rw [hs] at this; exact this
  have h2 : ∀ W, Kept w W → Calls Try.prog 37 #[.agg #[.int .i64 V, v, .int .i64 T]] W fun e w' => ∃ g, e = .returned (.slice (some ⟨g, 0, none⟩) (V + f.nodes.length) (V + f.nodes.length)) ∧ W.heap.size ≤ g ∧ RowAt w' g 4 ((belowK V T f.nodes).map .bool) ∧ Kept W w' := fun W hk => refBelow_any v f V T W (hv.kept hk) hok
  obtain ⟨r, hr⟩ : ∃ r, r = famsK V T f.nodes := ⟨_, rfl⟩
  rw [← hr]
  obtain ⟨mark, hmark⟩ : ∃ m, m = belowK V T f.nodes := ⟨_, rfl⟩
  have hml : mark.length = V + f.nodes.length := by rw [hmark, len_belowK]
  have hkm := fun i hi h => kind_mono hok hs i hi h
  unfold famsK at hr
  rw [← hmark] at hr h2 hkm
  obtain ⟨a, c, rfl, _, hl, hx⟩ := hv
  obtain ⟨n, hn⟩ : ∃ n, n = f.nodes.length := ⟨_, rfl⟩
  rw [← hn] at h1 h2 hml hr ⊢
  have hn9 : n ≤ 128 := by rw [hn]; exact hok.n128
  have hV9 := hok.v24
  have hT9 : T < V + n := by rw [hn]; exact hok.tlt
  have H1 := Lib.hid h1
  have H2 := Lib.hid h2
  have HX := Lib.hid hx
  have HN := Lib.hid hn
  have HO := Lib.hid hok
  have HR := Lib.hid hr
  have HML := Lib.hid hml
  have HKM := Lib.hid hkm
  clear h1 h2 hx hn hok hr hml hl hs hkm hmark
  go_enter Try.func24, Try.ntmps24
  go_wp2_with (first
    | (go_at_call 55; refine (H1.out _ ((Kept.refl _).alloc _)).mono ?_; rintro e w1 ⟨rfl, hk1⟩; have b0 := hk1.cell (p := ⟨w.heap.size, 0, none⟩) (v := .int .i64 V) (by simp); have b1 := hk1.cell (p := ⟨w.heap.size, 1, none⟩) (v := .slice a n c) (by simp); have b2 := hk1.cell (p := ⟨w.heap.size, 2, none⟩) (v := .int .i64 T) (by simp))
    | (go_at_call 37; refine (H2.out _ (((Kept.refl _).alloc _).trans hk1)).mono ?_; rintro e w2 ⟨gn, rfl, hgn, hrn, hk2⟩; have d0 := hk2.cell b0; have d1 := hk2.cell b1; have HRN := Lib.hid hrn; clear hrn)
    | (at_make; refine make_fam rfl _ _ rfl n rfl rfl (by omega) ?_; intro w3 ho3 hk3 hz3; have c0 := hk3.cell d0; have c1 := hk3.cell d1; have O3 := Lib.hid ho3; clear ho3))
  have hkb : Kept (w.alloc (.cells #[.int .i64 V, .slice a n c, .int .i64 T] 24)) w2 := hk1.trans hk2
  have HKB := Lib.hid hkb
  have HK3 := Lib.hid hk3
  clear b0 b1 b2 d0 d1 c0 c1 hkb hk1 hk2 hk3
  go_loopw [7, 8, 9, 11, 12, 27, 43] (fun _ _ _ _ _ i _ wr => ∃ (k : Nat) (out : List (List Nat)), k ≤ n ∧ i = .int .i64 k ∧ Hid (famsUp V mark f.nodes k = some out ∧ OwnFams wr w2.heap.size (.slice (some ⟨w2.heap.size, 0, none⟩) n n) out) ∧ Kept w2 wr) (fun _ _ _ _ _ i _ _ => n - (intOf i).toNat)
  case atStart => exact ⟨0, List.replicate n [], Nat.zero_le _, rfl, Lib.hid ⟨by rw [HN.out]; rfl, O3.out⟩, HK3.out⟩
  case round =>
    obtain ⟨k, out, hk, rfl, HI, hK⟩ := hrel
    have hkW := HKB.out.trans hK
    have q0 := hkW.cell (p := ⟨w.heap.size, 0, none⟩) (v := .int .i64 V) (by simp)
    have q1 := hkW.cell (p := ⟨w.heap.size, 1, none⟩) (v := .slice a n c) (by simp)
    have q2 := hkW.cell (p := ⟨w.heap.size, 2, none⟩) (v := .int .i64 T) (by simp)
    by_cases hlt : k < n
    · have hkx : k < f.nodes.length := by have := HN.out; omega
      have hol : out.length = n := by rw [len_famsUp V mark f.nodes k out HI.out.1, HN.out]
      have hup : famsUp V mark f.nodes (k + 1) = famStep V mark f.nodes out k := by
        show ((famsUp V mark f.nodes k).bind fun out => famStep V mark f.nodes out k) = _
        rw [HI.out.1]; rfl
      have hmc := (HRN.out.kept hK).cell (i := V + k) (by simp [HML.out]; omega)
      rw [getD_map_bool mark (V + k) (by rw [HML.out]; omega)] at hmc
      obtain ⟨b, o, rfl, u, hc1, hc2, hc3, hI⟩ := HX.out k hkx
      have hkA : Kept w wr := ((Kept.refl w).alloc (.cells #[.int .i64 V, .slice (some ⟨b, o, none⟩) n c, .int .i64 T] 24)).trans hkW
      have hrange := node_range (hkA.cell hc1) (hkA.cell hc2) (hkA.cell hc3)
      obtain ⟨ax, cx, rfl, _, hlx, hcx⟩ := hI
      have hargs := HO.out.args k hkx
      have h16 := argsOk_le (HO.out.argc k hkx)
      have hargc := HO.out.argc k hkx
      have harit := HO.out.arity k hkx
      have hmono := HKM.out k hkx
      have hstep : famStep V mark f.nodes out k = if mark.getD (V + k) false then (nodeK f.nodes[k].kind f.nodes[k].k (f.nodes[k].args.map (famArg V out))).map (fun l => out.set k l) else some out := by
        unfold famStep
        rw [show f.nodes.getD k noNd = f.nodes[k] by simp [List.getD_eq_getElem?_getD, hkx]]
      rw [hstep] at hup
      obtain ⟨kd, hkd⟩ : ∃ x, x = f.nodes[k].kind := ⟨_, rfl⟩
      obtain ⟨kk, hkk⟩ : ∃ x, x = f.nodes[k].k := ⟨_, rfl⟩
      obtain ⟨args, hag⟩ : ∃ x, x = f.nodes[k].args := ⟨_, rfl⟩
      rw [← hag] at hcx hargs hlx h16 hargc harit hup hrange
      rw [← hkd] at hargc harit hmono hup hrange
      rw [← hkk] at harit hup hrange
      obtain ⟨na, hna⟩ : ∃ x, x = args.length := ⟨_, rfl⟩
      rw [← hna] at hlx h16 hargc harit hrange
      have HRG := Lib.hid hrange
      have HUP := Lib.hid hup
      have HCX := Lib.hid hcx
      have HAR := Lib.hid hargs
      have HNA := Lib.hid hna
      have HGC := Lib.hid hargc
      have HRT := Lib.hid harit
      have HMO := Lib.hid hmono
      have HKA := Lib.hid hkA
      have HK := Lib.hid hK
      have hi1 : (V : Int) + (k : Int) < (V : Int) + (n : Int) := by omega
      have hi2 : (V : Int) + (k : Int) < ((V + n : Nat) : Int) := by omega
      have hgl : gn < wr.heap.size := Nat.lt_of_lt_of_le HRN.out.lt hK.size
      have hlw : w.heap.size < wr.heap.size := by have := hkW.size; simp at this; omega
      clear hc1 hc2 hc3 hrange hup hcx hargs hna hargc harit hmono hkA hK hkW hstep hkd hkk hag
      cases hmk : mark.getD (V + k) false with
      | false =>
        rw [hmk] at hmc
        have HMK := Lib.hid hmk
        clear hmk
        go_wp2_with (with_reducible refine wpList_load_mid rfl 47 _ rfl b (o + k * 3) rfl _ _ HRG.out Try.underlying47 rfl (by kernel_rfl) ?_)
        go_roundw
        case rel => exact ⟨k + 1, out, by omega, by go_num, Lib.hid ⟨by rw [HUP.out, HMK.out]; rfl, HI.out.2.kept ((Kept.refl _).alloc _)⟩, HK.out.alloc _⟩
        case measure => simp [intOf]; omega
      | true =>
        rw [hmk] at hmc
        have HMK := Lib.hid hmk
        clear hmk
        go_wp2_with (with_reducible refine wpList_load_mid rfl 47 _ rfl b (o + k * 3) rfl _ _ HRG.out Try.underlying47 rfl (by kernel_rfl) ?_)
        obtain ⟨wo, rfl⟩ : ∃ wo : World, wo = wr := ⟨_, rfl⟩
        clear hmc
        go_loopw [9, 11, 43] (fun av _ j wi => ∃ (p : Nat) (acc : List (List Nat)), p ≤ na ∧ j = .int .i64 p ∧ Hid (acc = (args.take p).map (famArg V out)) ∧ OwnFams wi (wo.heap.size + 1) av acc ∧ Kept (wo.alloc (.cells #[.int .i64 kd, .int .i64 kk, .slice ax na cx] 47)) wi) (fun _ _ j _ => na - (intOf j).toNat)
        case atStart => exact ⟨0, [], Nat.zero_le _, rfl, Lib.hid rfl, OwnFams.nil _ _, Kept.refl _⟩
        case round =>
          obtain ⟨p, acc, hp, rfl, HA, hacc, hKi⟩ := hrel
          have hsi := hKi.size
          simp only [World.size_alloc] at hsi
          have hal : acc.length ≤ 16 := by rw [HA.out]; simp; omega
          have hKw : Kept wo wr := ((Kept.refl _).alloc _).trans hKi
          have q0 := (HKB.out.trans (HK.out.trans hKw)).cell (p := ⟨w.heap.size, 0, none⟩) (v := .int .i64 V) (by simp)
          have q1 := (HKB.out.trans (HK.out.trans hKw)).cell (p := ⟨w.heap.size, 1, none⟩) (v := .slice (some ⟨b, o, none⟩) n c) (by simp)
          have q2 := (HKB.out.trans (HK.out.trans hKw)).cell (p := ⟨w.heap.size, 2, none⟩) (v := .int .i64 T) (by simp)
          by_cases hpn : p < na
          · have hpx : p < args.length := by have := HNA.out; omega
            obtain ⟨b2, o2, rfl, hc0⟩ := HCX.out p hpx
            have hcell := (HKA.out.trans hKw).cell hc0
            obtain ⟨y, hy⟩ : ∃ y, y = args[p] := ⟨_, rfl⟩
            have hy2 := HAR.out args[p] (List.getElem_mem _)
            rw [← hy] at hcell hy2
            obtain ⟨Y, hY⟩ := Int.eq_ofNat_of_zero_le hy2.1
            subst hY
            have hst : (args.take (p + 1)).map (famArg V out) = acc ++ [famArg V out (Y : Int)] := by
              rw [List.take_succ_eq_append_getElem hpx, List.map_append, ← HA.out, ← hy]; rfl
            have HST := Lib.hid hst
            have HAC := Lib.hid hacc
            have HKI := Lib.hid hKi
            clear hc0 hy hst hacc hKi
            have hcall : Calls Try.prog 51 #[.agg #[.int .i64 V, .slice (some ⟨b, o, none⟩) n c, .int .i64 T], .slice (some ⟨w2.heap.size, 0, none⟩) n n, .int .i64 Y] wr fun e w' => (∃ v', e = .returned v' ∧ OwnSets w' 0 v' (famArg V out (Y : Int))) ∧ Kept wr w' := by
              by_cases hYV : Y < V
              · have hfa : famArg V out (Y : Int) = [2 ^ Y] := by unfold famArg; rw [if_pos (by omega)]; rfl
                rw [hfa]
                exact of_low _ _ V T Y wr hV9 hYV ⟨_, _, _, rfl⟩ ⟨_, _, _, rfl⟩
              · obtain ⟨Z, hZ⟩ : ∃ Z, Y = V + Z := ⟨Y - V, by omega⟩
                subst hZ
                obtain ⟨uz, hcz0, huz0⟩ := HI.out.2.cell Z (by omega)
                have hfa : famArg V out ((V + Z : Nat) : Int) = out[Z]'(by omega) := by
                  unfold famArg
                  rw [if_neg (by omega), show (((V + Z : Nat) : Int) - (V : Int)).toNat = Z by omega]
                  simp [List.getD_eq_getElem?_getD, show Z < out.length by omega]
                rw [hfa]
                refine (of_high _ V Z w2.heap.size n n T uz wr (by omega) hn9 ⟨_, _, _, rfl⟩ (hKw.cell hcz0)).mono ?_
                rintro e w' ⟨rfl, hk⟩
                exact ⟨⟨uz, rfl, (huz0.kept hKw).kept hk⟩, hk⟩
            obtain ⟨fa, hfa⟩ : ∃ x, x = famArg V out (Y : Int) := ⟨_, rfl⟩
            rw [← hfa] at hcall HST
            have HCL := Lib.hid hcall
            clear hcall hfa
            go_wp2_with (first
              | (go_at_call 51; refine HCL.out.mono ?_; rintro e w5 ⟨⟨v5, rfl, ho5⟩, hk5⟩; have O5 := Lib.hid ho5; have hz5 := hk5.size; obtain ⟨xa, xn, xc, rfl⟩ := ho5.1.ints.shape; clear ho5)
              | (at_builtin; refine app_fam rfl _ _ rfl (wo.heap.size + 1) _ acc rfl (HAC.out.kept (hk5.alloc _)) _ _ fa rfl (by simp) (O5.out.kept ((Kept.refl _).alloc _)) (by omega) (by simp; omega) ?_; intro nv' w7 hown7 hg7 hb7; have O7 := Lib.hid hown7; clear hown7))
            go_roundw
            case rel => exact ⟨p + 1, _, by omega, by go_num, Lib.hid HST.out.symm, O7.out, ((HKI.out.trans hk5).alloc _) |>.app (hb7.mono (by simp))⟩
            case measure => simp [intOf]; omega
          · have e : p = na := by omega
            have hfull : acc = args.map (famArg V out) := by rw [HA.out, e, List.take_of_length_le (by have := HNA.out; omega)]
            have hlen : acc.length = na := by rw [hfull]; simp; exact HNA.out.symm
            have hgood : ∀ l ∈ acc, Good l := by
              rw [hfull]
              intro l hl
              obtain ⟨x, _, rfl⟩ := List.mem_map.1 hl
              exact good_famArg (good_famsUp V mark f.nodes k out HI.out.1) x
            have hne : kd ≠ 0 → acc ≠ [] := by
              intro h0 he
              have := HGC.out
              rw [he] at hlen
              simp at hlen
              unfold argsOk at this
              rw [if_neg h0, ← hlen] at this
              split at this <;> simp at this
            have h4 : kd = 4 → 1 ≤ kk ∧ kk ≤ acc.length := by
              intro h0
              have := HRT.out
              unfold chkK at this
              rw [if_neg (by omega), if_pos h0] at this
              split at this
              · rename_i h; rw [hlen]; exact h
              · cases this
            obtain ⟨uo, hco0, _⟩ := HI.out.2.cell k (by omega)
            have hco := hKw.cell hco0
            have hfo := hKw.free (p := ⟨w2.heap.size, k, none⟩) (World.block_lt_of_cell? _ _ hco0) (HI.out.2.free k)
            have hnb := (RowAt.made wo #[.int .i64 kd, .int .i64 kk, .slice ax na cx] 47).kept hKi
            have n0 : wr.cell? ⟨wo.heap.size, 0, none⟩ = some (.int .i64 kd) := hnb.cell (i := 0) (by simp)
            have n1 : wr.cell? ⟨wo.heap.size, 1, none⟩ = some (.int .i64 kk) := hnb.cell (i := 1) (by simp)
            have hup2 : famsUp V mark f.nodes (k + 1) = (nodeK kd kk acc).map (fun l => out.set k l) := by rw [HUP.out, HMK.out, if_pos rfl, ← hfull]
            have HUP2 := Lib.hid hup2
            have HKW := Lib.hid hKw
            have HAC := Lib.hid hacc
            have HCO := Lib.hid hco
            have HFO := Lib.hid hfo
            have hbl := World.block_lt_of_cell? _ _ hco
            have hkn : (k : Int) < (n : Int) := by omega
            have hmono2 := HMO.out HMK.out
            have hz2 : w.heap.size ≤ w2.heap.size := by have := HKB.out.size; simp at this; omega
            obtain ⟨sa, sn, sc, rfl⟩ := hacc.slice
            clear hnb hup2 hfull e hacc hKi hKw hco0 HA hco hfo
            rcases hmono2 with rfl | rfl | rfl | rfl
            · by_cases hk1 : kk = 1
              · subst hk1
                have HNK : Hid (nodeK 0 1 acc = some [0]) := Lib.hid rfl
                have hco := HCO.out
                have hfo := HFO.out
                go_wp2
                go_roundw
                case rel =>
                  have h7 := (HI.out.2.kept (HKW.out.alloc (.cells #[.int .i64 0] 3))).store hol.symm k (OwnSets.one wr 0 0 (by unfold Mk; omega) (Nat.zero_le _))
                  have h8 := (HK.out.trans (HKW.out.alloc (.cells #[.int .i64 0] 3))).store (Nat.le_refl _) k (.slice (some ⟨wr.heap.size, 0, none⟩) 1 1)
                  rw [World.setCell_alloc_past _ _ _ _ hbl] at h7 h8
                  exact ⟨k + 1, out.set k [0], by omega, by go_num, Lib.hid ⟨by rw [HUP2.out, HNK.out]; rfl, h7⟩, h8⟩
                case measure => simp [intOf]; omega
              · have e1 : (kk == 1) = false := by simpa using hk1
                have HNK : Hid (nodeK 0 kk acc = some []) := Lib.hid (by unfold nodeK; rw [if_pos rfl, if_neg hk1])
                have HSE : Hid (out.set k [] = out) := Lib.hid (famsUp_tail V mark f.nodes k out HI.out.1)
                clear hk1
                go_wp2
                go_roundw
                case rel => exact ⟨k + 1, out, by omega, by go_num, Lib.hid ⟨by rw [HUP2.out, HNK.out]; show some (out.set k []) = _; rw [HSE.out], HI.out.2.kept HKW.out⟩, HK.out.trans HKW.out⟩
                case measure => simp [intOf]; omega
            · obtain ⟨f0, fs, rfl⟩ : ∃ f0 fs, acc = f0 :: fs := by
                cases acc with
                | nil => exact absurd rfl (hne (by omega))
                | cons x l => exact ⟨x, l, rfl⟩
              have hnk0 : nodeK 2 kk (f0 :: fs) = foldK productK f0 fs := by
                show foldK productK [0] (f0 :: fs) = _
                exact fold_and_head (hgood f0 (List.mem_cons_self ..)) fs
              have hcall : Calls Try.prog 56 #[.slice sa sn sc, .bool true] wr fun e w' => RRes w' e (nodeK 2 kk (f0 :: fs)) ∧ Kept wr w' := by
                rw [hnk0]
                exact row_and _ f0 fs wr (HAC.out.mono (Nat.zero_le _)) (by simp at hal; omega)
              have HCL := Lib.hid hcall
              clear hcall hnk0 hne h4 hgood hal hlen
              cases hnk : nodeK 2 kk (f0 :: fs) with
              | none =>
                have HNK := Lib.hid hnk
                clear hnk
                go_wp2_with (go_at_call 56; refine HCL.out.mono ?_; rintro e w8 ⟨he, hk8⟩; rw [HNK.out] at he; unfold RRes at he; subst he; have hc8 := hk8.cell HCO.out; have hf8 := hk8.free hbl HFO.out)
                go_ret2
                have hrn : r = none := by rw [HR.out]; exact famsUp_none V mark f.nodes (k + 1) (by rw [HUP2.out, HNK.out]; rfl) n (by omega)
                exact ⟨by rw [hrn]; rfl, ((HKA.out.trans (HKW.out.trans hk8)).store hz2 _ _)⟩
              | some l =>
                have HNK := Lib.hid hnk
                clear hnk
                go_wp2_with (go_at_call 56; refine HCL.out.mono ?_; rintro e w8 ⟨he, hk8⟩; rw [HNK.out] at he; unfold RRes at he; obtain ⟨v8, rfl, ho8⟩ := he; obtain ⟨xa, xn, xc, rfl⟩ := ho8.1.ints.shape; have hc8 := hk8.cell HCO.out; have hf8 := hk8.free hbl HFO.out; have O8 := Lib.hid ho8; clear ho8)
                go_roundw
                case rel => exact ⟨k + 1, out.set k l, by omega, by go_num, Lib.hid ⟨by rw [HUP2.out, HNK.out]; rfl, (HI.out.2.kept (HKW.out.trans hk8)).store hol.symm k O8.out⟩, (HK.out.trans (HKW.out.trans hk8)).store (Nat.le_refl _) _ _⟩
                case measure => simp [intOf]; omega
            · obtain ⟨f0, fs, rfl⟩ : ∃ f0 fs, acc = f0 :: fs := by
                cases acc with
                | nil => exact absurd rfl (hne (by omega))
                | cons x l => exact ⟨x, l, rfl⟩
              have hnk0 : nodeK 3 kk (f0 :: fs) = foldK plusK f0 fs := by
                show foldK plusK [] (f0 :: fs) = _
                exact fold_or_head (hgood f0 (List.mem_cons_self ..)) fs
              have hcall : Calls Try.prog 56 #[.slice sa sn sc, .bool false] wr fun e w' => RRes w' e (nodeK 3 kk (f0 :: fs)) ∧ Kept wr w' := by
                rw [hnk0]
                exact row_or _ f0 fs wr (HAC.out.mono (Nat.zero_le _)) (by simp at hal; omega)
              have HCL := Lib.hid hcall
              clear hcall hnk0 hne h4 hgood hal hlen
              cases hnk : nodeK 3 kk (f0 :: fs) with
              | none =>
                have HNK := Lib.hid hnk
                clear hnk
                go_wp2_with (go_at_call 56; refine HCL.out.mono ?_; rintro e w8 ⟨he, hk8⟩; rw [HNK.out] at he; unfold RRes at he; subst he; have hc8 := hk8.cell HCO.out; have hf8 := hk8.free hbl HFO.out)
                go_ret2
                have hrn : r = none := by rw [HR.out]; exact famsUp_none V mark f.nodes (k + 1) (by rw [HUP2.out, HNK.out]; rfl) n (by omega)
                exact ⟨by rw [hrn]; rfl, ((HKA.out.trans (HKW.out.trans hk8)).store hz2 _ _)⟩
              | some l =>
                have HNK := Lib.hid hnk
                clear hnk
                go_wp2_with (go_at_call 56; refine HCL.out.mono ?_; rintro e w8 ⟨he, hk8⟩; rw [HNK.out] at he; unfold RRes at he; obtain ⟨v8, rfl, ho8⟩ := he; obtain ⟨xa, xn, xc, rfl⟩ := ho8.1.ints.shape; have hc8 := hk8.cell HCO.out; have hf8 := hk8.free hbl HFO.out; have O8 := Lib.hid ho8; clear ho8)
                go_roundw
                case rel => exact ⟨k + 1, out.set k l, by omega, by go_num, Lib.hid ⟨by rw [HUP2.out, HNK.out]; rfl, (HI.out.2.kept (HKW.out.trans hk8)).store hol.symm k O8.out⟩, (HK.out.trans (HKW.out.trans hk8)).store (Nat.le_refl _) _ _⟩
                case measure => simp [intOf]; omega
            · obtain ⟨K, hKK⟩ := Int.eq_ofNat_of_zero_le (show 0 ≤ kk by have := h4 rfl; omega)
              subst hKK
              have hk14 := h4 rfl
              have hcall : Calls Try.prog 57 #[.slice sa sn sc, .int .i64 K] wr fun e w' => RRes w' e (nodeK 4 (K : Int) acc) ∧ Kept wr w' := rvote_any _ acc K wr HAC.out.at (by omega) (by omega) (by omega)
              have HCL := Lib.hid hcall
              clear hcall hne h4 hgood hal hlen hk14
              cases hnk : nodeK 4 (K : Int) acc with
              | none =>
                have HNK := Lib.hid hnk
                clear hnk
                go_wp2_with (go_at_call 57; refine HCL.out.mono ?_; rintro e w8 ⟨he, hk8⟩; rw [HNK.out] at he; unfold RRes at he; subst he; have hc8 := hk8.cell HCO.out; have hf8 := hk8.free hbl HFO.out)
                go_ret2
                have hrn : r = none := by rw [HR.out]; exact famsUp_none V mark f.nodes (k + 1) (by rw [HUP2.out, HNK.out]; rfl) n (by omega)
                exact ⟨by rw [hrn]; rfl, ((HKA.out.trans (HKW.out.trans hk8)).store hz2 _ _)⟩
              | some l =>
                have HNK := Lib.hid hnk
                clear hnk
                go_wp2_with (go_at_call 57; refine HCL.out.mono ?_; rintro e w8 ⟨he, hk8⟩; rw [HNK.out] at he; unfold RRes at he; obtain ⟨v8, rfl, ho8⟩ := he; obtain ⟨xa, xn, xc, rfl⟩ := ho8.1.ints.shape; have hc8 := hk8.cell HCO.out; have hf8 := hk8.free hbl HFO.out; have O8 := Lib.hid ho8; clear ho8)
                go_roundw
                case rel => exact ⟨k + 1, out.set k l, by omega, by go_num, Lib.hid ⟨by rw [HUP2.out, HNK.out]; rfl, (HI.out.2.kept (HKW.out.trans hk8)).store hol.symm k O8.out⟩, (HK.out.trans (HKW.out.trans hk8)).store (Nat.le_refl _) _ _⟩
                case measure => simp [intOf]; omega
    · have e : k = n := by omega
      have hrr : r = some out := by rw [HR.out, ← e]; exact HI.out.1
      have HRR := Lib.hid hrr
      have HKWn := Lib.hid (((Kept.refl w).alloc _).trans hkW)
      clear hrr hkW e
      go_wp2
      go_ret2
      exact ⟨by rw [HRR.out]; exact ⟨_, rfl, HI.out.2.mono (Nat.zero_le _)⟩, HKWn.out⟩
end Go.Proofs.Ytcgfjacidjebaaa
