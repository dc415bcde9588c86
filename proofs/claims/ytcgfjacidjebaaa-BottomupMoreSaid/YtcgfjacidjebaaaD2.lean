/-
  Walks: formula.below, bottomup.needed, faultlineref08.Below.
-/
import Derived.Test.YtcgfjacidjebaaaD1
import Derived.Test.YtcgfjacidjebaaaC1
import Derived.Test.YtcgfjacidjebaaaP4
namespace Go.Proofs.Ytcgfjacidjebaaa
open Go.RowKit

theorem getD_map_bool (m : List Bool) (i : Nat) (h : i < m.length) : (m.map Value.bool)[i]'(by simpa using h) = .bool (m.getD i false) := by
  simp [List.getD_eq_getElem?_getD, h]
set_option maxHeartbeats 4000000 in
theorem below_any (v : Value) (f : Fm) (V T : Nat) (w : World) (hv : NodesAt w v f.nodes) (hok : Ok f V T) :
    Calls Try.prog 68 #[.agg #[.int .i64 V, v, .int .i64 T]] w fun e w' => ∃ g, e = .returned (.slice (some ⟨g, 0, none⟩) (V + f.nodes.length) (V + f.nodes.length)) ∧ w.heap.size ≤ g ∧ RowAt w' g 4 ((belowK V T f.nodes).map .bool) ∧ Kept w w' := by
  obtain ⟨a, c, rfl, _, hl, hx⟩ := hv
  obtain ⟨n, hn⟩ : ∃ n, n = f.nodes.length := ⟨_, rfl⟩
  rw [← hn] at hl ⊢
  have hn9 : n ≤ 128 := by rw [hn]; exact hok.n128
  have hV9 := hok.v24
  have hT9 : T < V + n := by rw [hn]; exact hok.tlt
  obtain ⟨R, hR⟩ : ∃ R, R = belowK V T f.nodes := ⟨_, rfl⟩
  rw [← hR]
  have HX := Lib.hid hx
  have HN := Lib.hid hn
  have HO := Lib.hid hok
  have HR := Lib.hid hR
  have hTV : ((T : Nat) : Int) < ((V + n : Nat) : Int) := by omega
  have hTV2 : (T : Int) < (V : Int) + (n : Int) := by omega
  clear hx hn hok hR hl
  go_enter Try.func68, Try.ntmps68
  go_wp2_with (at_make; refine make_one 54 4 _ 1 info_bool Try.underlying54 rfl rfl _ _ rfl (V + n) (by show Value.int .i64 ((V : Int) + (n : Int)) = .int .i64 ((V + n : Nat) : Int); rw [Int.natCast_add]) (by show Value.int .i64 ((V : Int) + (n : Int)) = .int .i64 ((V + n : Nat) : Int); rw [Int.natCast_add]) (by omega) (by unfold maxLen; omega) ?_; intro w1 hr1 hk1; simp only [World.size_alloc] at hr1; have hs1 := hk1.size; simp only [World.size_alloc] at hs1; have c0 := hr1.cell (i := T) (by simp; omega); simp only [List.getElem_replicate] at c0; have f0 := hr1.free T; have b0 := hk1.cell (p := ⟨w.heap.size, 0, none⟩) (v := .int .i64 V) (by simp); have b1 := hk1.cell (p := ⟨w.heap.size, 1, none⟩) (v := .slice a n c) (by simp); have b2 := hk1.cell (p := ⟨w.heap.size, 2, none⟩) (v := .int .i64 T) (by simp); have HR1 := Lib.hid hr1; clear hr1)
  have hKb : Kept (w.alloc (.cells #[.int .i64 V, .slice a n c, .int .i64 T] 24)) (w1.setCell ⟨w.heap.size + 1, T, none⟩ (.bool true)) := hk1.store (by simp) _ _
  have hRow := HR1.out.store T (.bool true)
  have hRw : RowAt (w1.setCell ⟨w.heap.size + 1, T, none⟩ (.bool true)) (w.heap.size + 1) 4 ((((List.replicate (V + n) false).set T true)).map .bool) := by
    rw [List.map_set, List.map_replicate]; exact hRow
  clear hRow c0 f0 b0 b1 b2 hs1 hk1 HR1
  go_loopw [4, 6, 40] (fun i _ _ wr => ∃ (k : Nat) (m : List Bool), k ≤ n ∧ i = .int .i64 ((k : Int) - 1) ∧ Hid (m.length = V + n ∧ belowGo V f.nodes k m = R) ∧ RowAt wr (w.heap.size + 1) 4 (m.map .bool) ∧ Kept (w.alloc (.cells #[.int .i64 V, .slice a n c, .int .i64 T] 24)) wr) (fun i _ _ _ => (intOf i + 1).toNat)
  case atStart => exact ⟨n, _, Nat.le_refl _, rfl, Lib.hid ⟨by simp, by rw [HR.out, HN.out]; rfl⟩, hRw, hKb⟩
  case round =>
    clear hRw hKb
    obtain ⟨k, m, hk, rfl, HM, hrow, hK⟩ := hrel
    have hlen := HM.out.1
    by_cases hpos : 0 < k
    · obtain ⟨q, rfl⟩ : ∃ q, k = q + 1 := ⟨k - 1, by omega⟩
      have e1 : ((q + 1 : Nat) : Int) - 1 = (q : Int) := by omega
      rw [e1]
      have hqx : q < f.nodes.length := by have := HN.out; omega
      obtain ⟨b, o, rfl, u, hc1, hc2, hc3, hI⟩ := HX.out q hqx
      have hn3 := (((Kept.refl w).alloc (.cells #[.int .i64 V, .slice (some ⟨b, o, none⟩) n c, .int .i64 T] 24)).trans hK).cell hc3
      have b0 := hK.cell (p := ⟨w.heap.size, 0, none⟩) (v := .int .i64 V) (by simp)
      have b1 := hK.cell (p := ⟨w.heap.size, 1, none⟩) (v := .slice (some ⟨b, o, none⟩) n c) (by simp)
      have cm := hrow.cell (i := V + q) (by simp; omega)
      rw [getD_map_bool m (V + q) (by omega)] at cm
      have harg : ∀ x ∈ f.nodes[q].args, 0 ≤ x ∧ x < (V : Int) + q := HO.out.args q hqx
      have hgo : belowGo V f.nodes (q + 1) m = belowGo V f.nodes q (if m.getD (V + q) false then markAll m f.nodes[q].args else m) := by
        show belowGo V f.nodes q (if m.getD (V + q) false then markAll m (f.nodes.getD q noNd).args else m) = _
        rw [show f.nodes.getD q noNd = f.nodes[q] by simp [List.getD_eq_getElem?_getD, hqx]]
      obtain ⟨args, hargs⟩ : ∃ x, x = f.nodes[q].args := ⟨_, rfl⟩
      rw [← hargs] at harg hgo hI
      obtain ⟨ax, cx, rfl, _, hlx, hcx⟩ := hI
      obtain ⟨na, hna⟩ : ∃ x, x = args.length := ⟨_, rfl⟩
      rw [← hna] at hn3 hlx
      have hq1 : (0 : Int) ≤ (V : Int) + (q : Int) ∧ (V : Int) + (q : Int) < (V : Int) + (n : Int) := by omega
      have hq2 : (V : Int) + (q : Int) < ((V + n : Nat) : Int) := by omega
      have hq3 : (q : Int) < (n : Int) := by omega
      have HG := Lib.hid hgo
      have HAR := Lib.hid harg
      have HCX := Lib.hid hcx
      have HNA := Lib.hid hna
      have HROW := Lib.hid hrow
      have HKK := Lib.hid hK
      clear hc1 hc2 hc3 harg hgo hcx hna hargs hrow e1
      cases hmk : m.getD (V + q) false with
      | false =>
        rw [hmk] at cm
        have HMK := Lib.hid hmk
        clear hmk hK
        go_wp2
        go_roundw
        case rel => exact ⟨q, m, by omega, by go_num, Lib.hid ⟨hlen, by have := HM.out.2; rw [HG.out, HMK.out] at this; exact this⟩, HROW.out, HKK.out⟩
        case measure => simp [intOf]
      | true =>
        rw [hmk] at cm
        have HMK := Lib.hid hmk
        clear hmk hK
        go_wp2
        obtain ⟨wo, hwo⟩ : ∃ wo : World, wo = wr := ⟨_, rfl⟩
        rw [← hwo] at HROW HKK hn3 b0 b1 cm
        clear hn3 b0 b1 cm
        go_loopw [6, 40] (fun _ j wi => ∃ (p : Nat) (m2 : List Bool), p ≤ na ∧ j = .int .i64 p ∧ Hid (m2 = markAll m (args.take p)) ∧ RowAt wi (w.heap.size + 1) 4 (m2.map .bool) ∧ Kept (w.alloc (.cells #[.int .i64 V, .slice (some ⟨b, o, none⟩) n c, .int .i64 T] 24)) wi) (fun _ j _ => na - (intOf j).toNat)
        case atStart => exact ⟨0, m, Nat.zero_le _, rfl, Lib.hid rfl, by rw [← hwo]; exact HROW.out, by rw [← hwo]; exact HKK.out⟩
        case round =>
          obtain ⟨p, m2, hp, rfl, HM2, hrow2, hK2⟩ := hrel
          have hlen2 : m2.length = V + n := by rw [HM2.out, len_markAll]; exact hlen
          by_cases hpa : p < na
          · have hpx : p < args.length := by have := HNA.out; omega
            obtain ⟨b2, o2, rfl, hc0⟩ := HCX.out p hpx
            have hcell := (((Kept.refl w).alloc (.cells #[.int .i64 V, .slice (some ⟨b, o, none⟩) n c, .int .i64 T] 24)).trans hK2).cell hc0
            obtain ⟨y, hy⟩ : ∃ y, y = args[p] := ⟨_, rfl⟩
            have hy2 := HAR.out args[p] (List.getElem_mem _)
            rw [← hy] at hcell hy2
            obtain ⟨Y, hY⟩ := Int.eq_ofNat_of_zero_le hy2.1
            subst hY
            have hstep : markAll m (args.take (p + 1)) = (markAll m (args.take p)).set Y true := by
              unfold markAll
              rw [List.take_succ_eq_append_getElem hpx, List.foldl_append, ← hy]; simp
            have hYl : Y < V + n := by omega
            have cY := hrow2.cell (i := Y) (by simp; omega)
            rw [getD_map_bool m2 Y (by omega)] at cY
            have fY := hrow2.free Y
            have hnew := hrow2.store Y (.bool true)
            rw [← List.map_set] at hnew
            have hKn := hK2.store (g := w.heap.size + 1) (by simp) Y (.bool true)
            have hY1 : (Y : Int) < (V : Int) + (n : Int) := by omega
            have hY2 : (Y : Int) < ((V + n : Nat) : Int) := by omega
            have HST := Lib.hid hstep
            have HNW := Lib.hid hnew
            have HKN := Lib.hid hKn
            clear hc0 hy hstep hnew hKn hK2 hrow2 hlen2
            go_wp2
            go_roundw
            case rel => exact ⟨p + 1, _, by omega, by go_num, Lib.hid (by rw [HST.out, ← HM2.out]), HNW.out, HKN.out⟩
            case measure => simp [intOf]; omega
          · have e : p = na := by omega
            have hfin : m2 = markAll m args := by rw [HM2.out, e, List.take_of_length_le (by have := HNA.out; omega)]
            have HFIN := Lib.hid hfin
            have HR2 := Lib.hid hrow2
            have HK2 := Lib.hid hK2
            clear hfin e hrow2 hK2 hlen2
            go_wp2
            go_roundw
            case rel => exact ⟨q, m2, by omega, by go_num, Lib.hid ⟨by rw [HFIN.out, len_markAll]; exact hlen, by have := HM.out.2; rw [HG.out, HMK.out] at this; rw [HFIN.out]; exact this⟩, HR2.out, HK2.out⟩
            case measure => simp [intOf]
    · have e : k = 0 := by omega
      subst e
      have hRm : R = m := HM.out.2.symm
      have HRM := Lib.hid hRm
      have HRW := Lib.hid hrow
      have HKK := Lib.hid hK
      clear hRm hrow hK
      go_wp2
      go_ret
      exact ⟨_, rfl, by omega, by rw [HRM.out]; exact HRW.out, ((Kept.refl _).alloc _).trans HKK.out⟩
set_option maxHeartbeats 4000000 in
theorem needed_any (v : Value) (f : Fm) (V T : Nat) (w : World) (hv : NodesAt w v f.nodes) (hok : Ok f V T) :
    Calls Try.prog 53 #[.agg #[.int .i64 V, v, .int .i64 T]] w fun e w' => ∃ g, e = .returned (.slice (some ⟨g, 0, none⟩) (V + f.nodes.length) (V + f.nodes.length)) ∧ w.heap.size ≤ g ∧ RowAt w' g 4 ((belowK V T f.nodes).map .bool) ∧ Kept w w' := by
  obtain ⟨a, c, rfl, _, hl, hx⟩ := hv
  obtain ⟨n, hn⟩ : ∃ n, n = f.nodes.length := ⟨_, rfl⟩
  rw [← hn] at hl ⊢
  have hn9 : n ≤ 128 := by rw [hn]; exact hok.n128
  have hV9 := hok.v24
  have hT9 : T < V + n := by rw [hn]; exact hok.tlt
  obtain ⟨R, hR⟩ : ∃ R, R = belowK V T f.nodes := ⟨_, rfl⟩
  rw [← hR]
  have HX := Lib.hid hx
  have HN := Lib.hid hn
  have HO := Lib.hid hok
  have HR := Lib.hid hR
  have hTV : ((T : Nat) : Int) < ((V + n : Nat) : Int) := by omega
  have hTV2 : (T : Int) < (V : Int) + (n : Int) := by omega
  clear hx hn hok hR hl
  go_enter Try.func53, Try.ntmps53
  go_wp2_with (at_make; refine make_one 54 4 _ 1 info_bool Try.underlying54 rfl rfl _ _ rfl (V + n) (by show Value.int .i64 ((V : Int) + (n : Int)) = .int .i64 ((V + n : Nat) : Int); rw [Int.natCast_add]) (by show Value.int .i64 ((V : Int) + (n : Int)) = .int .i64 ((V + n : Nat) : Int); rw [Int.natCast_add]) (by omega) (by unfold maxLen; omega) ?_; intro w1 hr1 hk1; simp only [World.size_alloc] at hr1; have hs1 := hk1.size; simp only [World.size_alloc] at hs1; have c0 := hr1.cell (i := T) (by simp; omega); simp only [List.getElem_replicate] at c0; have f0 := hr1.free T; have b0 := hk1.cell (p := ⟨w.heap.size, 0, none⟩) (v := .int .i64 V) (by simp); have b1 := hk1.cell (p := ⟨w.heap.size, 1, none⟩) (v := .slice a n c) (by simp); have b2 := hk1.cell (p := ⟨w.heap.size, 2, none⟩) (v := .int .i64 T) (by simp); have HR1 := Lib.hid hr1; clear hr1)
  have hKb : Kept (w.alloc (.cells #[.int .i64 V, .slice a n c, .int .i64 T] 24)) (w1.setCell ⟨w.heap.size + 1, T, none⟩ (.bool true)) := hk1.store (by simp) _ _
  have hRow := HR1.out.store T (.bool true)
  have hRw : RowAt (w1.setCell ⟨w.heap.size + 1, T, none⟩ (.bool true)) (w.heap.size + 1) 4 ((((List.replicate (V + n) false).set T true)).map .bool) := by
    rw [List.map_set, List.map_replicate]; exact hRow
  clear hRow c0 f0 b0 b1 b2 hs1 hk1 HR1
  go_loopw [4, 6, 40] (fun i _ _ wr => ∃ (k : Nat) (m : List Bool), k ≤ n ∧ i = .int .i64 ((k : Int) - 1) ∧ Hid (m.length = V + n ∧ belowGo V f.nodes k m = R) ∧ RowAt wr (w.heap.size + 1) 4 (m.map .bool) ∧ Kept (w.alloc (.cells #[.int .i64 V, .slice a n c, .int .i64 T] 24)) wr) (fun i _ _ _ => (intOf i + 1).toNat)
  case atStart => exact ⟨n, _, Nat.le_refl _, rfl, Lib.hid ⟨by simp, by rw [HR.out, HN.out]; rfl⟩, hRw, hKb⟩
  case round =>
    clear hRw hKb
    obtain ⟨k, m, hk, rfl, HM, hrow, hK⟩ := hrel
    have hlen := HM.out.1
    by_cases hpos : 0 < k
    · obtain ⟨q, rfl⟩ : ∃ q, k = q + 1 := ⟨k - 1, by omega⟩
      have e1 : ((q + 1 : Nat) : Int) - 1 = (q : Int) := by omega
      rw [e1]
      have hqx : q < f.nodes.length := by have := HN.out; omega
      obtain ⟨b, o, rfl, u, hc1, hc2, hc3, hI⟩ := HX.out q hqx
      have hn3 := (((Kept.refl w).alloc (.cells #[.int .i64 V, .slice (some ⟨b, o, none⟩) n c, .int .i64 T] 24)).trans hK).cell hc3
      have b0 := hK.cell (p := ⟨w.heap.size, 0, none⟩) (v := .int .i64 V) (by simp)
      have b1 := hK.cell (p := ⟨w.heap.size, 1, none⟩) (v := .slice (some ⟨b, o, none⟩) n c) (by simp)
      have cm := hrow.cell (i := V + q) (by simp; omega)
      rw [getD_map_bool m (V + q) (by omega)] at cm
      have harg : ∀ x ∈ f.nodes[q].args, 0 ≤ x ∧ x < (V : Int) + q := HO.out.args q hqx
      have hgo : belowGo V f.nodes (q + 1) m = belowGo V f.nodes q (if m.getD (V + q) false then markAll m f.nodes[q].args else m) := by
        show belowGo V f.nodes q (if m.getD (V + q) false then markAll m (f.nodes.getD q noNd).args else m) = _
        rw [show f.nodes.getD q noNd = f.nodes[q] by simp [List.getD_eq_getElem?_getD, hqx]]
      obtain ⟨args, hargs⟩ : ∃ x, x = f.nodes[q].args := ⟨_, rfl⟩
      rw [← hargs] at harg hgo hI
      obtain ⟨ax, cx, rfl, _, hlx, hcx⟩ := hI
      obtain ⟨na, hna⟩ : ∃ x, x = args.length := ⟨_, rfl⟩
      rw [← hna] at hn3 hlx
      have hq1 : (0 : Int) ≤ (V : Int) + (q : Int) ∧ (V : Int) + (q : Int) < (V : Int) + (n : Int) := by omega
      have hq2 : (V : Int) + (q : Int) < ((V + n : Nat) : Int) := by omega
      have hq3 : (q : Int) < (n : Int) := by omega
      have HG := Lib.hid hgo
      have HAR := Lib.hid harg
      have HCX := Lib.hid hcx
      have HNA := Lib.hid hna
      have HROW := Lib.hid hrow
      have HKK := Lib.hid hK
      clear hc1 hc2 hc3 harg hgo hcx hna hargs hrow e1
      cases hmk : m.getD (V + q) false with
      | false =>
        rw [hmk] at cm
        have HMK := Lib.hid hmk
        clear hmk hK
        go_wp2
        go_roundw
        case rel => exact ⟨q, m, by omega, by go_num, Lib.hid ⟨hlen, by have := HM.out.2; rw [HG.out, HMK.out] at this; exact this⟩, HROW.out, HKK.out⟩
        case measure => simp [intOf]
      | true =>
        rw [hmk] at cm
        have HMK := Lib.hid hmk
        clear hmk hK
        go_wp2
        obtain ⟨wo, hwo⟩ : ∃ wo : World, wo = wr := ⟨_, rfl⟩
        rw [← hwo] at HROW HKK hn3 b0 b1 cm
        clear hn3 b0 b1 cm
        go_loopw [6, 40] (fun _ j wi => ∃ (p : Nat) (m2 : List Bool), p ≤ na ∧ j = .int .i64 p ∧ Hid (m2 = markAll m (args.take p)) ∧ RowAt wi (w.heap.size + 1) 4 (m2.map .bool) ∧ Kept (w.alloc (.cells #[.int .i64 V, .slice (some ⟨b, o, none⟩) n c, .int .i64 T] 24)) wi) (fun _ j _ => na - (intOf j).toNat)
        case atStart => exact ⟨0, m, Nat.zero_le _, rfl, Lib.hid rfl, by rw [← hwo]; exact HROW.out, by rw [← hwo]; exact HKK.out⟩
        case round =>
          obtain ⟨p, m2, hp, rfl, HM2, hrow2, hK2⟩ := hrel
          have hlen2 : m2.length = V + n := by rw [HM2.out, len_markAll]; exact hlen
          by_cases hpa : p < na
          · have hpx : p < args.length := by have := HNA.out; omega
            obtain ⟨b2, o2, rfl, hc0⟩ := HCX.out p hpx
            have hcell := (((Kept.refl w).alloc (.cells #[.int .i64 V, .slice (some ⟨b, o, none⟩) n c, .int .i64 T] 24)).trans hK2).cell hc0
            obtain ⟨y, hy⟩ : ∃ y, y = args[p] := ⟨_, rfl⟩
            have hy2 := HAR.out args[p] (List.getElem_mem _)
            rw [← hy] at hcell hy2
            obtain ⟨Y, hY⟩ := Int.eq_ofNat_of_zero_le hy2.1
            subst hY
            have hstep : markAll m (args.take (p + 1)) = (markAll m (args.take p)).set Y true := by
              unfold markAll
              rw [List.take_succ_eq_append_getElem hpx, List.foldl_append, ← hy]; simp
            have hYl : Y < V + n := by omega
            have cY := hrow2.cell (i := Y) (by simp; omega)
            rw [getD_map_bool m2 Y (by omega)] at cY
            have fY := hrow2.free Y
            have hnew := hrow2.store Y (.bool true)
            rw [← List.map_set] at hnew
            have hKn := hK2.store (g := w.heap.size + 1) (by simp) Y (.bool true)
            have hY1 : (Y : Int) < (V : Int) + (n : Int) := by omega
            have hY2 : (Y : Int) < ((V + n : Nat) : Int) := by omega
            have HST := Lib.hid hstep
            have HNW := Lib.hid hnew
            have HKN := Lib.hid hKn
            clear hc0 hy hstep hnew hKn hK2 hrow2 hlen2
            go_wp2
            go_roundw
            case rel => exact ⟨p + 1, _, by omega, by go_num, Lib.hid (by rw [HST.out, ← HM2.out]), HNW.out, HKN.out⟩
            case measure => simp [intOf]; omega
          · have e : p = na := by omega
            have hfin : m2 = markAll m args := by rw [HM2.out, e, List.take_of_length_le (by have := HNA.out; omega)]
            have HFIN := Lib.hid hfin
            have HR2 := Lib.hid hrow2
            have HK2 := Lib.hid hK2
            clear hfin e hrow2 hK2 hlen2
            go_wp2
            go_roundw
            case rel => exact ⟨q, m2, by omega, by go_num, Lib.hid ⟨by rw [HFIN.out, len_markAll]; exact hlen, by have := HM.out.2; rw [HG.out, HMK.out] at this; rw [HFIN.out]; exact this⟩, HR2.out, HK2.out⟩
            case measure => simp [intOf]
    · have e : k = 0 := by omega
      subst e
      have hRm : R = m := HM.out.2.symm
      have HRM := Lib.hid hRm
      have HRW := Lib.hid hrow
      have HKK := Lib.hid hK
      clear hRm hrow hK
      go_wp2
      go_ret
      exact ⟨_, rfl, by omega, by rw [HRM.out]; exact HRW.out, ((Kept.refl _).alloc _).trans HKK.out⟩
set_option maxHeartbeats 4000000 in
theorem refBelow_any (v : Value) (f : Fm) (V T : Nat) (w : World) (hv : NodesAt w v f.nodes) (hok : Ok f V T) :
    Calls Try.prog 37 #[.agg #[.int .i64 V, v, .int .i64 T]] w fun e w' => ∃ g, e = .returned (.slice (some ⟨g, 0, none⟩) (V + f.nodes.length) (V + f.nodes.length)) ∧ w.heap.size ≤ g ∧ RowAt w' g 4 ((belowK V T f.nodes).map .bool) ∧ Kept w w' := by
  obtain ⟨a, c, rfl, _, hl, hx⟩ := hv
  obtain ⟨n, hn⟩ : ∃ n, n = f.nodes.length := ⟨_, rfl⟩
  rw [← hn] at hl ⊢
  have hn9 : n ≤ 128 := by rw [hn]; exact hok.n128
  have hV9 := hok.v24
  have hT9 : T < V + n := by rw [hn]; exact hok.tlt
  obtain ⟨R, hR⟩ : ∃ R, R = belowK V T f.nodes := ⟨_, rfl⟩
  rw [← hR]
  have HX := Lib.hid hx
  have HN := Lib.hid hn
  have HO := Lib.hid hok
  have HR := Lib.hid hR
  have hTV : ((T : Nat) : Int) < ((V + n : Nat) : Int) := by omega
  have hTV2 : (T : Int) < (V : Int) + (n : Int) := by omega
  clear hx hn hok hR hl
  go_enter Try.func37, Try.ntmps37
  go_wp2_with (at_make; refine make_one 54 4 _ 1 info_bool Try.underlying54 rfl rfl _ _ rfl (V + n) (by show Value.int .i64 ((V : Int) + (n : Int)) = .int .i64 ((V + n : Nat) : Int); rw [Int.natCast_add]) (by show Value.int .i64 ((V : Int) + (n : Int)) = .int .i64 ((V + n : Nat) : Int); rw [Int.natCast_add]) (by omega) (by unfold maxLen; omega) ?_; intro w1 hr1 hk1; simp only [World.size_alloc] at hr1; have hs1 := hk1.size; simp only [World.size_alloc] at hs1; have c0 := hr1.cell (i := T) (by simp; omega); simp only [List.getElem_replicate] at c0; have f0 := hr1.free T; have b0 := hk1.cell (p := ⟨w.heap.size, 0, none⟩) (v := .int .i64 V) (by simp); have b1 := hk1.cell (p := ⟨w.heap.size, 1, none⟩) (v := .slice a n c) (by simp); have b2 := hk1.cell (p := ⟨w.heap.size, 2, none⟩) (v := .int .i64 T) (by simp); have HR1 := Lib.hid hr1; clear hr1)
  have hKb : Kept (w.alloc (.cells #[.int .i64 V, .slice a n c, .int .i64 T] 24)) (w1.setCell ⟨w.heap.size + 1, T, none⟩ (.bool true)) := hk1.store (by simp) _ _
  have hRow := HR1.out.store T (.bool true)
  have hRw : RowAt (w1.setCell ⟨w.heap.size + 1, T, none⟩ (.bool true)) (w.heap.size + 1) 4 ((((List.replicate (V + n) false).set T true)).map .bool) := by
    rw [List.map_set, List.map_replicate]; exact hRow
  clear hRow c0 f0 b0 b1 b2 hs1 hk1 HR1
  go_loopw [4, 6, 41] (fun i _ _ wr => ∃ (k : Nat) (m : List Bool), k ≤ n ∧ i = .int .i64 ((k : Int) - 1) ∧ Hid (m.length = V + n ∧ belowGo V f.nodes k m = R) ∧ RowAt wr (w.heap.size + 1) 4 (m.map .bool) ∧ Kept (w.alloc (.cells #[.int .i64 V, .slice a n c, .int .i64 T] 24)) wr) (fun i _ _ _ => (intOf i + 1).toNat)
  case atStart => exact ⟨n, _, Nat.le_refl _, rfl, Lib.hid ⟨by simp, by rw [HR.out, HN.out]; rfl⟩, hRw, hKb⟩
  case round =>
    clear hRw hKb
    obtain ⟨k, m, hk, rfl, HM, hrow, hK⟩ := hrel
    have hlen := HM.out.1
    by_cases hpos : 0 < k
    · obtain ⟨q, rfl⟩ : ∃ q, k = q + 1 := ⟨k - 1, by omega⟩
      have e1 : ((q + 1 : Nat) : Int) - 1 = (q : Int) := by omega
      rw [e1]
      have hqx : q < f.nodes.length := by have := HN.out; omega
      obtain ⟨b, o, rfl, u, hc1, hc2, hc3, hI⟩ := HX.out q hqx
      have hn3 := (((Kept.refl w).alloc (.cells #[.int .i64 V, .slice (some ⟨b, o, none⟩) n c, .int .i64 T] 24)).trans hK).cell hc3
      have b0 := hK.cell (p := ⟨w.heap.size, 0, none⟩) (v := .int .i64 V) (by simp)
      have b1 := hK.cell (p := ⟨w.heap.size, 1, none⟩) (v := .slice (some ⟨b, o, none⟩) n c) (by simp)
      have cm := hrow.cell (i := V + q) (by simp; omega)
      rw [getD_map_bool m (V + q) (by omega)] at cm
      have harg : ∀ x ∈ f.nodes[q].args, 0 ≤ x ∧ x < (V : Int) + q := HO.out.args q hqx
      have hgo : belowGo V f.nodes (q + 1) m = belowGo V f.nodes q (if m.getD (V + q) false then markAll m f.nodes[q].args else m) := by
        show belowGo V f.nodes q (if m.getD (V + q) false then markAll m (f.nodes.getD q noNd).args else m) = _
        rw [show f.nodes.getD q noNd = f.nodes[q] by simp [List.getD_eq_getElem?_getD, hqx]]
      obtain ⟨args, hargs⟩ : ∃ x, x = f.nodes[q].args := ⟨_, rfl⟩
      rw [← hargs] at harg hgo hI
      obtain ⟨ax, cx, rfl, _, hlx, hcx⟩ := hI
      obtain ⟨na, hna⟩ : ∃ x, x = args.length := ⟨_, rfl⟩
      rw [← hna] at hn3 hlx
      have hq1 : (0 : Int) ≤ (V : Int) + (q : Int) ∧ (V : Int) + (q : Int) < (V : Int) + (n : Int) := by omega
      have hq2 : (V : Int) + (q : Int) < ((V + n : Nat) : Int) := by omega
      have hq3 : (q : Int) < (n : Int) := by omega
      have HG := Lib.hid hgo
      have HAR := Lib.hid harg
      have HCX := Lib.hid hcx
      have HNA := Lib.hid hna
      have HROW := Lib.hid hrow
      have HKK := Lib.hid hK
      clear hc1 hc2 hc3 harg hgo hcx hna hargs hrow e1
      cases hmk : m.getD (V + q) false with
      | false =>
        rw [hmk] at cm
        have HMK := Lib.hid hmk
        clear hmk hK
        go_wp2
        go_roundw
        case rel => exact ⟨q, m, by omega, by go_num, Lib.hid ⟨hlen, by have := HM.out.2; rw [HG.out, HMK.out] at this; exact this⟩, HROW.out, HKK.out⟩
        case measure => simp [intOf]
      | true =>
        rw [hmk] at cm
        have HMK := Lib.hid hmk
        clear hmk hK
        go_wp2
        obtain ⟨wo, hwo⟩ : ∃ wo : World, wo = wr := ⟨_, rfl⟩
        rw [← hwo] at HROW HKK hn3 b0 b1 cm
        clear hn3 b0 b1 cm
        go_loopw [6, 41] (fun _ j wi => ∃ (p : Nat) (m2 : List Bool), p ≤ na ∧ j = .int .i64 p ∧ Hid (m2 = markAll m (args.take p)) ∧ RowAt wi (w.heap.size + 1) 4 (m2.map .bool) ∧ Kept (w.alloc (.cells #[.int .i64 V, .slice (some ⟨b, o, none⟩) n c, .int .i64 T] 24)) wi) (fun _ j _ => na - (intOf j).toNat)
        case atStart => exact ⟨0, m, Nat.zero_le _, rfl, Lib.hid rfl, by rw [← hwo]; exact HROW.out, by rw [← hwo]; exact HKK.out⟩
        case round =>
          obtain ⟨p, m2, hp, rfl, HM2, hrow2, hK2⟩ := hrel
          have hlen2 : m2.length = V + n := by rw [HM2.out, len_markAll]; exact hlen
          by_cases hpa : p < na
          · have hpx : p < args.length := by have := HNA.out; omega
            obtain ⟨b2, o2, rfl, hc0⟩ := HCX.out p hpx
            have hcell := (((Kept.refl w).alloc (.cells #[.int .i64 V, .slice (some ⟨b, o, none⟩) n c, .int .i64 T] 24)).trans hK2).cell hc0
            obtain ⟨y, hy⟩ : ∃ y, y = args[p] := ⟨_, rfl⟩
            have hy2 := HAR.out args[p] (List.getElem_mem _)
            rw [← hy] at hcell hy2
            obtain ⟨Y, hY⟩ := Int.eq_ofNat_of_zero_le hy2.1
            subst hY
            have hstep : markAll m (args.take (p + 1)) = (markAll m (args.take p)).set Y true := by
              unfold markAll
              rw [List.take_succ_eq_append_getElem hpx, List.foldl_append, ← hy]; simp
            have hYl : Y < V + n := by omega
            have cY := hrow2.cell (i := Y) (by simp; omega)
            rw [getD_map_bool m2 Y (by omega)] at cY
            have fY := hrow2.free Y
            have hnew := hrow2.store Y (.bool true)
            rw [← List.map_set] at hnew
            have hKn := hK2.store (g := w.heap.size + 1) (by simp) Y (.bool true)
            have hY1 : (Y : Int) < (V : Int) + (n : Int) := by omega
            have hY2 : (Y : Int) < ((V + n : Nat) : Int) := by omega
            have HST := Lib.hid hstep
            have HNW := Lib.hid hnew
            have HKN := Lib.hid hKn
            clear hc0 hy hstep hnew hKn hK2 hrow2 hlen2
            go_wp2
            go_roundw
            case rel => exact ⟨p + 1, _, by omega, by go_num, Lib.hid (by rw [HST.out, ← HM2.out]), HNW.out, HKN.out⟩
            case measure => simp [intOf]; omega
          · have e : p = na := by omega
            have hfin : m2 = markAll m args := by rw [HM2.out, e, List.take_of_length_le (by have := HNA.out; omega)]
            have HFIN := Lib.hid hfin
            have HR2 := Lib.hid hrow2
            have HK2 := Lib.hid hK2
            clear hfin e hrow2 hK2 hlen2
            go_wp2
            go_roundw
            case rel => exact ⟨q, m2, by omega, by go_num, Lib.hid ⟨by rw [HFIN.out, len_markAll]; exact hlen, by have := HM.out.2; rw [HG.out, HMK.out] at this; rw [HFIN.out]; exact this⟩, HR2.out, HK2.out⟩
            case measure => simp [intOf]
    · have e : k = 0 := by omega
      subst e
      have hRm : R = m := HM.out.2.symm
      have HRM := Lib.hid hRm
      have HRW := Lib.hid hrow
      have HKK := Lib.hid hK
      clear hRm hrow hK
      go_wp2
      go_ret
      exact ⟨_, rfl, by omega, by rw [HRM.out]; exact HRW.out, ((Kept.refl _).alloc _).trans HKK.out⟩
end Go.Proofs.Ytcgfjacidjebaaa
