import Derived.Test.YtapniojbnochiaaK3
import Derived.Deep.RegionHeld3
import Derived.Deep.DeepCutAuto
/-
  Walks: formula.values.
-/
namespace Go.Proofs.Ytapniojbnochiaa
open Go.RowKit

/-- A slice of bools of the call's own. -/
def OwnBools (w : World) (B : Nat) (v : Value) (bs : List Bool) : Prop := w.ownsRow B 4 1 v bs.length (bs.map Value.bool) ∧ bs.length ≤ 1000000
theorem OwnBools.kept {w w' : World} {B : Nat} {v : Value} {bs : List Bool} (h : OwnBools w B v bs) (hk : Kept w w') : OwnBools w' B v bs := ⟨own_kept h.1 hk, h.2⟩
theorem OwnBools.mono {w : World} {B B' : Nat} {v : Value} {bs : List Bool} (h : OwnBools w B v bs) (hb : B' ≤ B) : OwnBools w B' v bs := ⟨own_mono h.1 hb, h.2⟩
theorem OwnBools.shape {w : World} {B : Nat} {v : Value} {bs : List Bool} (h : OwnBools w B v bs) (h0 : bs ≠ []) : ∃ g cap, v = .slice (some ⟨g, 0, none⟩) bs.length cap ∧ B ≤ g ∧ g < w.heap.size ∧ bs.length ≤ cap := by
  obtain ⟨⟨_, h3⟩, _⟩ := h
  rcases h3 with ⟨_, h3⟩ | ⟨g, cap, cur, rfl, h4, h5, h6, _⟩
  · exact absurd (List.eq_nil_of_length_eq_zero h3) h0
  · exact ⟨g, cap, rfl, h4, heap_lt h5, h6⟩
theorem OwnBools.slice {w : World} {B : Nat} {v : Value} {bs : List Bool} (h : OwnBools w B v bs) : ∃ a c, v = .slice a bs.length c ∧ bs.length ≤ c := by
  obtain ⟨⟨_, h3⟩, _⟩ := h
  rcases h3 with ⟨rfl, h3⟩ | ⟨g, cap, cur, rfl, h4, h5, h6, _⟩
  · exact ⟨none, 0, by rw [h3], by omega⟩
  · exact ⟨_, cap, rfl, h6⟩
theorem OwnBools.cell {w : World} {B g n cap : Nat} {bs : List Bool} (h : OwnBools w B (.slice (some ⟨g, 0, none⟩) n cap) bs) (i : Nat) (hi : i < bs.length) : w.cell? ⟨g, i, none⟩ = some (.bool (bs.getD i false)) := by
  obtain ⟨⟨_, h6⟩, _⟩ := h
  rcases h6 with ⟨h6, _⟩ | ⟨g', cap', cur, h6, _, h7, h8, h9, h10, h11⟩
  · cases h6
  · cases h6
    have e1 : (cur.toList.take (bs.length * 1))[i]? = (bs.map Value.bool)[i]? := by rw [h11]
    rw [List.getElem?_take_of_lt (by omega)] at e1
    simp only [World.cell?, h7]
    simpa [hi, List.getD_eq_getElem?_getD] using e1
theorem OwnBools.free {w : World} {B g n cap : Nat} {bs : List Bool} (h : OwnBools w B (.slice (some ⟨g, 0, none⟩) n cap) bs) (i : Nat) : w.frozen? ⟨g, i, none⟩ = false := by
  obtain ⟨⟨_, h3⟩, _⟩ := h
  rcases h3 with ⟨h3, _⟩ | ⟨g', cap', cur, h3, _, h4, _⟩
  · cases h3
  · cases h3
    simp [World.frozen?, h4]
theorem OwnBools.store {w : World} {B g n cap : Nat} {bs : List Bool} (h : OwnBools w B (.slice (some ⟨g, 0, none⟩) n cap) bs) (hn : n = bs.length) (i : Nat) (b : Bool) : OwnBools (w.setCell ⟨g, i, none⟩ (.bool b)) B (.slice (some ⟨g, 0, none⟩) n cap) (bs.set i b) := by
  subst hn
  refine ⟨?_, by simpa using h.2⟩
  have := (h.1.stored i (.bool b)).1
  simpa [List.map_set] using this
theorem make_bools {ops : Array Oper} {rest : List Oper} {o : Oper} {a : Act} {Q : Exit → Act → World → Prop} {w : World} (hg : o.guard = none) (l c : Operand)
    (hop : o.op = Op.makeSlice 54 l c) (n m : Nat) (hl : a.eval l = .int .i64 n) (hc : a.eval c = .int .i64 m) (hnm : n ≤ m) (hb : m ≤ 1000000)
    (hK : ∀ w', OwnBools w' w.heap.size (.slice (some ⟨w.heap.size, 0, none⟩) n m) (List.replicate n false) → Kept w w' → w.heap.size < w'.heap.size → wpList Try.prog ops Q rest (a.put o.dst (.slice (some ⟨w.heap.size, 0, none⟩) n m)) w') : wpList Try.prog ops Q (o :: rest) a w := by
  obtain ⟨i0, hi0, hz0, hz1, hz2⟩ := info_parts info_bool
  refine wpList_plain hg fun K hK' => ?_
  have hrun := run_make (P := Try.prog) w 54 4 i0 _ Try.underlying54 hi0 hz0 .i64 .i64 n m (by omega) (by omega) (by rw [hz2]; omega) (by omega)
  simp only [Int.toNat_natCast] at hrun
  obtain ⟨w', hw'⟩ : ∃ w', w' = w.alloc (.cells (madeCells (Value.bool false).cells (m * i0.size)) 4) := ⟨_, rfl⟩
  rw [← hw'] at hrun
  unfold Oper.wp
  simp [execOp, hop, hl, hc, hrun, Result.andThen]
  subst hw'
  refine hK' _ _ (hK _ ?_ ((Kept.refl _).alloc _) (by simp))
  refine ⟨⟨by simp, .inr ⟨w.heap.size, m, _, by simp, Nat.le_refl _, heap_alloc_new w _, by simpa using hnm, by unfold maxLen; omega, by rw [size_madeCells, hz1], ?_⟩⟩, by simp; omega⟩
  simp only [hz1]
  rw [made_one _ rfl m]
  simp [List.take_replicate, Nat.min_eq_left hnm]
theorem app_bool {ops : Array Oper} {rest : List Oper} {o : Oper} {a : Act} {Q : Exit → Act → World → Prop} {w : World} (hgd : o.guard = none) (s x : Operand)
    (ho : o.op = .call { callee := .builtin .append, args := #[s, x], argTypes := #[54, 54] }) (B : Nat) (v : Value) (bs : List Bool) (hs : a.eval s = v) (hown : OwnBools w B v bs)
    (ad : Addr) (y : Bool) (hx : a.eval x = .slice (some ad) 1 1) (hc : w.cell? ad = some (.bool y)) (hl : bs.length < 1000000) (hB : B ≤ w.heap.size)
    (h : ∀ v' w', OwnBools w' B v' (bs ++ [y]) → Below B w w' → wpList Try.prog ops Q rest (a.put o.dst v') w') : wpList Try.prog ops Q (o :: rest) a w := by
  refine app_one 54 4 _ 1 info_bool Try.underlying54 rfl hgd s x ho B v (bs.map .bool) hs (by simpa using hown.1) ad _ hx hc rfl (by simp; omega) (by simp [maxLen]; omega) hB ?_
  intro v' w' h2 h3 h4
  exact h v' w' ⟨by simpa using h2, by simp; omega⟩ h4
theorem bit_val (s k : Nat) (hs : s < 16777216) : (bits .and .i64 ((s : Int) / 2 ^ k) 1 == 1) = s.testBit k := by
  have e : (s : Int) / 2 ^ k = ((s / 2 ^ k : Nat) : Int) := by simp
  have hle : s / 2 ^ k ≤ s := Nat.div_le_self _ _
  rw [e, show (1 : Int) = ((1 : Nat) : Int) from rfl, and_i64 _ _ (by omega) (by omega), Nat.testBit_eq_decide_div_mod_eq, Nat.and_one_is_mod]
  rw [Bool.eq_iff_iff]
  simp
  omega
theorem bits_step (V s k : Nat) (h : k < V) : ((List.range k).map (fun i => s.testBit i) ++ List.replicate (V - k) false).set k (s.testBit k) = (List.range (k + 1)).map (fun i => s.testBit i) ++ List.replicate (V - (k + 1)) false := by
  rw [List.set_append_right _ _ (by simp), show V - k = (V - (k + 1)) + 1 by omega, List.replicate_succ, List.range_succ]
  simp
/-- One node's value, by its kind. -/
theorem nodeV_cases {kind : Int} (h : 0 ≤ kind ∧ kind ≤ 5) : kind = 0 ∨ kind = 1 ∨ kind = 2 ∨ kind = 3 ∨ kind = 4 ∨ kind = 5 := by omega
set_option maxRecDepth 100000 in
set_option maxHeartbeats 8000000 in
theorem values_any (v : Value) (f : Fm) (V T s : Nat) (w : World) (hv : NodesAt w v f.nodes) (hok : Ok f V T) (hs : s < 16777216) :
    Calls Try.prog 75 #[.agg #[.int .i64 V, v, .int .i64 T], .int .i64 s] w fun e w' => (∃ v', e = .returned v' ∧ OwnBools w' w.heap.size v' (valsK V s f.nodes) ∧ (f.nodes.length = 0 → ∃ g, v' = .slice (some ⟨g, 0, none⟩) V V)) ∧ Kept w w' := by
  obtain ⟨a, c, rfl, _, hl, hx⟩ := hv
  obtain ⟨n, hn⟩ : ∃ n, n = f.nodes.length := ⟨_, rfl⟩
  rw [← hn] at hl ⊢
  have hn9 : n ≤ 128 := by rw [hn]; exact hok.n128
  have hV9 := hok.v24
  obtain ⟨r, hr⟩ : ∃ r, r = valsK V s f.nodes := ⟨_, rfl⟩
  rw [← hr]
  unfold valsK at hr
  rw [← hn] at hr
  have HX := Lib.hid hx
  have HN := Lib.hid hn
  have HO := Lib.hid hok
  have HR := Lib.hid hr
  clear hx hn hok hr hl
  go_enter Try.func75, Try.ntmps75
  go_wp2_with (at_make; refine make_bools rfl _ _ rfl V (V + n) rfl (by show Value.int .i64 ((V : Int) + n) = .int .i64 ((V + n : Nat) : Int); rw [Int.natCast_add]) (by omega) (by omega) ?_; intro w3 ho3 hk3 hz3; have O3 := Lib.hid ho3; clear ho3)
  have HK3 := Lib.hid hk3
  clear hk3
  simp only [World.size_alloc] at O3 HK3 hz3 ⊢
  go_loopw [6, 24] (fun _ i wr => ∃ k : Nat, k ≤ V ∧ i = .int .i64 k ∧ Hid (OwnBools wr (w.heap.size + 1) (.slice (some ⟨w.heap.size + 1, 0, none⟩) V (V + n)) ((List.range k).map (fun i => s.testBit i) ++ List.replicate (V - k) false) ∧ Kept (w.alloc (.cells #[.int .i64 V, .slice a n c, .int .i64 T] 24)) wr)) (fun _ i _ => V - (intOf i).toNat)
  case atStart => exact ⟨0, Nat.zero_le _, rfl, Lib.hid ⟨by simpa using O3.out, HK3.out⟩⟩
  case round =>
    obtain ⟨k, hk, rfl, HI⟩ := hrel
    have hlen : V = ((List.range k).map (fun i => s.testBit i) ++ List.replicate (V - k) false).length := by simp; omega
    by_cases hlt : k < V
    · have hc0 := HI.out.1.cell k (by simp; omega)
      have hf0 := HI.out.1.free k
      have HL := Lib.hid hlen
      have HBV := Lib.hid (bit_val s k hs)
      clear hlen
      go_wp2
      go_roundw
      case rel =>
        refine ⟨k + 1, by omega, by go_num, Lib.hid ⟨?_, HI.out.2.store (by simp) _ _⟩⟩
        have h7 := HI.out.1.store HL.out k (s.testBit k)
        rw [bits_step V s k hlt, ← HBV.out] at h7
        exact h7
      case measure => simp [intOf]; omega
    · have hkV : k = V := by omega
      have h0 : valsUp V s f.nodes 0 = (List.range k).map (fun i => s.testBit i) ++ List.replicate (V - k) false := by rw [hkV]; simp [valsUp]
      have hI := HI.out
      rw [← h0] at hI
      have HI0 := Lib.hid hI
      have q0 := hI.2.cell (p := ⟨w.heap.size, 0, none⟩) (v := .int .i64 V) (by simp)
      have q1 := hI.2.cell (p := ⟨w.heap.size, 1, none⟩) (v := .slice a n c) (by simp)
      clear hI h0 hkV HI O3 HK3 hlen hz3
      go_wp2_with fail
      obtain ⟨wb, rfl⟩ : ∃ wb : World, wb = wr := ⟨_, rfl⟩
      go_loopw [5, 8, 9, 11, 12, 39, 46] (fun vv _ _ _ _ i _ wr => ∃ k : Nat, k ≤ n ∧ i = .int .i64 k ∧ OwnBools wr (w.heap.size + 1) vv (valsUp V s f.nodes k) ∧ Hid (k = 0 → vv = .slice (some ⟨w.heap.size + 1, 0, none⟩) V (V + n)) ∧ Kept (w.alloc (.cells #[.int .i64 V, .slice a n c, .int .i64 T] 24)) wr) (fun _ _ _ _ _ i _ _ => n - (intOf i).toNat)
      case atStart => exact ⟨0, Nat.zero_le _, rfl, HI0.out.1, Lib.hid fun _ => rfl, HI0.out.2⟩
      case round =>
        obtain ⟨k, hk, rfl, hO, HZ, hK⟩ := hrel
        have HO1 := Lib.hid hO
        have HK := Lib.hid hK
        have hsz := hK.size
        simp only [World.size_alloc] at hsz
        by_cases hlt : k < n
        · have hkx : k < f.nodes.length := by have := HN.out; omega
          obtain ⟨b, o, rfl, u, hc1, hc2, hc3, hI⟩ := HX.out k hkx
          have hkA : Kept w wr := ((Kept.refl w).alloc _).trans hK
          have hrange := node_range (hkA.cell hc1) (hkA.cell hc2) (hkA.cell hc3)
          obtain ⟨ax, cx, rfl, _, hlx, hcx⟩ := hI
          have hargs := HO.out.args k hkx
          have h16 := argsOk_le (HO.out.argc k hkx)
          have hkind := HO.out.kind k hkx
          have hstep : valsUp V s f.nodes (k + 1) = valsUp V s f.nodes k ++ [nodeV f.nodes[k].kind f.nodes[k].k (trueN (valsUp V s f.nodes k) f.nodes[k].args) f.nodes[k].args.length] := by
            show valsUp V s f.nodes k ++ [nodeV (f.nodes.getD k noNd).kind (f.nodes.getD k noNd).k (trueN (valsUp V s f.nodes k) (f.nodes.getD k noNd).args) (f.nodes.getD k noNd).args.length] = _
            rw [show f.nodes.getD k noNd = f.nodes[k] by simp [List.getD_eq_getElem?_getD, hkx]]
          have hvl := len_valsUp V s f.nodes k
          obtain ⟨kd, hkd⟩ : ∃ x, x = f.nodes[k].kind := ⟨_, rfl⟩
          obtain ⟨kk, hkk⟩ : ∃ x, x = f.nodes[k].k := ⟨_, rfl⟩
          obtain ⟨args, hag⟩ : ∃ x, x = f.nodes[k].args := ⟨_, rfl⟩
          rw [← hag] at hcx hargs hlx h16 hstep hrange
          rw [← hkd] at hkind hstep hrange
          rw [← hkk] at hstep hrange
          obtain ⟨na, hna⟩ : ∃ x, x = args.length := ⟨_, rfl⟩
          rw [← hna] at hlx h16 hstep hrange
          obtain ⟨vals, hvals⟩ : ∃ x, x = valsUp V s f.nodes k := ⟨_, rfl⟩
          rw [← hvals] at hstep hvl HO1
          have HRG := Lib.hid hrange
          have HCX := Lib.hid hcx
          have HAR := Lib.hid hargs
          have HNA := Lib.hid hna
          have HST := Lib.hid hstep
          have HVL := Lib.hid hvl
          have HKA := Lib.hid hkA
          have hlw : w.heap.size < wr.heap.size := by omega
          obtain ⟨sa, sc, rfl, hscap⟩ := HO1.out.slice
          rw [hvl] at HO1 hscap ⊢
          clear hc1 hc2 hc3 hrange hcx hargs hna hstep hvl hkA hkd hkk hag hvals hO hK hlx
          go_wp2_with (with_reducible refine wpList_load_mid rfl 47 _ rfl b (o + k * 3) rfl _ _ HRG.out Try.underlying47 rfl (by kernel_rfl) ?_)
          obtain ⟨wo, rfl⟩ : ∃ wo : World, wo = wr := ⟨_, rfl⟩
          go_loop [9, 11, 46] (fun tn _ j => ∃ p : Nat, p ≤ na ∧ j = .int .i64 p ∧ tn = .int .i64 (trueN vals (args.take p) : Nat)) (fun _ _ j => na - (intOf j).toNat)
          case atStart => exact ⟨0, Nat.zero_le _, rfl, rfl⟩
          case round =>
            obtain ⟨p, hp, rfl, rfl⟩ := hrel
            have ht16 : trueN vals (args.take p) ≤ 16 := by have := trueN_le vals (args.take p); simp at this; omega
            by_cases hpn : p < na
            · have hpx : p < args.length := by have := HNA.out; omega
              obtain ⟨b2, o2, rfl, hc0⟩ := HCX.out p hpx
              have hcell := ((HKA.out).alloc (.cells #[.int .i64 kd, .int .i64 kk, .slice (some ⟨b2, o2, none⟩) na cx] 47)).cell hc0
              obtain ⟨y, hy⟩ : ∃ y, y = args[p] := ⟨_, rfl⟩
              have hy2 := HAR.out args[p] (List.getElem_mem _)
              have hst : trueN vals (args.take (p + 1)) = trueN vals (args.take p) + (vals.getD args[p].toNat false).toNat := by
                rw [List.take_succ_eq_append_getElem hpx, trueN_append]
                simp only [trueN]
                cases vals.getD args[p].toNat false <;> rfl
              rw [← hy] at hcell hy2 hst
              obtain ⟨Y, hY⟩ := Int.eq_ofNat_of_zero_le hy2.1
              subst hY
              simp only [Int.toNat_natCast] at hst
              have HO2 := HO1.out
              obtain ⟨g, cap, hge, hg1, hg2, _⟩ := HO2.shape (by intro e; have := HVL.out; rw [e] at this; simp at this; omega)
              injection hge with h1 h2 h3
              subst h1 h3
              have hcv := (((HO1.out).kept ((Kept.refl _).alloc (.cells #[.int .i64 kd, .int .i64 kk, .slice (some ⟨b2, o2, none⟩) na cx] 47))).cell Y (by have := HVL.out; omega))
              have hYl : (Y : Int) < ((V + k : Nat) : Int) := by omega
              have hYl2 : (Y : Int) < (V : Int) + (k : Int) := by omega
              obtain ⟨tq, htq⟩ : ∃ x, x = trueN vals (args.take p) := ⟨_, rfl⟩
              rw [← htq] at hst ht16 ⊢
              have HST2 := Lib.hid hst
              clear hc0 hy hst htq HO2 hg1 hg2
              cases hb : vals.getD Y false with
              | true =>
                rw [hb] at hcv
                have HB := Lib.hid hb
                clear hb
                go_wp2
                go_round
                case rel => exact ⟨p + 1, by omega, by go_num, by rw [HST2.out, HB.out]; rfl⟩
                case measure => simp [intOf]; omega
              | false =>
                rw [hb] at hcv
                have HB := Lib.hid hb
                clear hb
                go_wp2
                go_round
                case rel => exact ⟨p + 1, by omega, by go_num, by rw [HST2.out, HB.out]; rfl⟩
                case measure => simp [intOf]; omega
            · have hpe : args.take p = args := List.take_of_length_le (by have := HNA.out; omega)
              rw [hpe] at ht16 ⊢
              obtain ⟨tq, htq⟩ : ∃ x, x = trueN vals args := ⟨_, rfl⟩
              have hstep := HST.out
              rw [← htq] at hstep ht16 ⊢
              have HST2 := Lib.hid hstep
              clear hpe htq hstep
              have hcn := (((Kept.refl wo).alloc (.cells #[.int .i64 kd, .int .i64 kk, .slice ax na cx] 47)))
              have HCN := Lib.hid hcn
              clear hcn
              rcases nodeV_cases hkind with rfl | rfl | rfl | rfl | rfl | rfl
              · have HE : Hid (nodeV 0 kk tq na = (kk == 1)) := Lib.hid rfl
                go_wp2_with (at_builtin; refine app_bool rfl _ _ rfl (w.heap.size + 1) _ vals rfl (HO1.out.kept (HCN.out.alloc _)) _ (kk == 1) rfl (by simp) (by have := HVL.out; omega) (by simp; omega) ?_; intro v7 w7 hown7 hb7; have O7 := Lib.hid hown7; have HB7 := Lib.hid hb7; clear hown7 hb7)
                go_roundw
                case rel => exact ⟨k + 1, by omega, by go_num, by rw [HST2.out, HE.out]; exact O7.out, Lib.hid (fun h => by omega), (HK.out.trans (HCN.out.alloc _)).app (HB7.out.mono (by simp))⟩
                case measure => simp [intOf]; omega
              · have HE : Hid (nodeV 1 kk tq na = ((tq : Int) == 0)) := Lib.hid (by show (tq == 0) = _; rw [Bool.eq_iff_iff]; simp)
                go_wp2_with (at_builtin; refine app_bool rfl _ _ rfl (w.heap.size + 1) _ vals rfl (HO1.out.kept (HCN.out.alloc _)) _ ((tq : Int) == 0) rfl (by simp) (by have := HVL.out; omega) (by simp; omega) ?_; intro v7 w7 hown7 hb7; have O7 := Lib.hid hown7; have HB7 := Lib.hid hb7; clear hown7 hb7)
                go_roundw
                case rel => exact ⟨k + 1, by omega, by go_num, by rw [HST2.out, HE.out]; exact O7.out, Lib.hid (fun h => by omega), (HK.out.trans (HCN.out.alloc _)).app (HB7.out.mono (by simp))⟩
                case measure => simp [intOf]; omega
              · have HE : Hid (nodeV 2 kk tq na = ((tq : Int) == (na : Int))) := Lib.hid (by show (tq == na) = _; rw [Bool.eq_iff_iff]; simp; omega)
                go_wp2_with (at_builtin; refine app_bool rfl _ _ rfl (w.heap.size + 1) _ vals rfl (HO1.out.kept (HCN.out.alloc _)) _ ((tq : Int) == (na : Int)) rfl (by simp) (by have := HVL.out; omega) (by simp; omega) ?_; intro v7 w7 hown7 hb7; have O7 := Lib.hid hown7; have HB7 := Lib.hid hb7; clear hown7 hb7)
                go_roundw
                case rel => exact ⟨k + 1, by omega, by go_num, by rw [HST2.out, HE.out]; exact O7.out, Lib.hid (fun h => by omega), (HK.out.trans (HCN.out.alloc _)).app (HB7.out.mono (by simp))⟩
                case measure => simp [intOf]; omega
              · have HE : Hid (nodeV 3 kk tq na = (decide (0 < (tq : Int)))) := Lib.hid (by show decide (0 < tq) = _; rw [Bool.eq_iff_iff]; simp)
                go_wp2_with (at_builtin; refine app_bool rfl _ _ rfl (w.heap.size + 1) _ vals rfl (HO1.out.kept (HCN.out.alloc _)) _ (decide (0 < (tq : Int))) rfl (by simp) (by have := HVL.out; omega) (by simp; omega) ?_; intro v7 w7 hown7 hb7; have O7 := Lib.hid hown7; have HB7 := Lib.hid hb7; clear hown7 hb7)
                go_roundw
                case rel => exact ⟨k + 1, by omega, by go_num, by rw [HST2.out, HE.out]; exact O7.out, Lib.hid (fun h => by omega), (HK.out.trans (HCN.out.alloc _)).app (HB7.out.mono (by simp))⟩
                case measure => simp [intOf]; omega
              · have HE : Hid (nodeV 4 kk tq na = (decide (kk ≤ (tq : Int)))) := Lib.hid rfl
                go_wp2_with (at_builtin; refine app_bool rfl _ _ rfl (w.heap.size + 1) _ vals rfl (HO1.out.kept (HCN.out.alloc _)) _ (decide (kk ≤ (tq : Int))) rfl (by simp) (by have := HVL.out; omega) (by simp; omega) ?_; intro v7 w7 hown7 hb7; have O7 := Lib.hid hown7; have HB7 := Lib.hid hb7; clear hown7 hb7)
                go_roundw
                case rel => exact ⟨k + 1, by omega, by go_num, by rw [HST2.out, HE.out]; exact O7.out, Lib.hid (fun h => by omega), (HK.out.trans (HCN.out.alloc _)).app (HB7.out.mono (by simp))⟩
                case measure => simp [intOf]; omega
              · have HE : Hid (nodeV 5 kk tq na = ((tq : Int) % 2 == 1)) := Lib.hid (by show (tq % 2 == 1) = _; rw [Bool.eq_iff_iff]; simp; omega)
                go_wp2_with (at_builtin; refine app_bool rfl _ _ rfl (w.heap.size + 1) _ vals rfl (HO1.out.kept (HCN.out.alloc _)) _ ((tq : Int) % 2 == 1) rfl (by simp) (by have := HVL.out; omega) (by simp; omega) ?_; intro v7 w7 hown7 hb7; have O7 := Lib.hid hown7; have HB7 := Lib.hid hb7; clear hown7 hb7)
                go_roundw
                case rel => exact ⟨k + 1, by omega, by go_num, by rw [HST2.out, HE.out]; exact O7.out, Lib.hid (fun h => by omega), (HK.out.trans (HCN.out.alloc _)).app (HB7.out.mono (by simp))⟩
                case measure => simp [intOf]; omega
        · have hkn : k = n := by omega
          have hrr : r = valsUp V s f.nodes k := by rw [HR.out, hkn]
          have HRR := Lib.hid hrr
          obtain ⟨sa, sc, rfl, _⟩ := HO1.out.slice
          clear hkn hrr hO hK
          go_wp2
          go_ret
          exact ⟨⟨_, rfl, by rw [HRR.out]; exact HO1.out.mono (by omega), fun h0 => by
            have hn0 : n = 0 := h0
            have hz := HZ.out (by omega)
            exact ⟨_, by rw [hn0] at hz; exact hz⟩⟩, ((Kept.refl _).alloc _).trans HK.out⟩
end Go.Proofs.Ytapniojbnochiaa

/-
  Walks: formula.check, Value, Values; slices.Clone at []bool.
-/
namespace Go.Proofs.Ytapniojbnochiaa
open Go.RowKit

theorem shlW (V : Nat) (h : V ≤ 24) : wrap64 ((2 : Int) ^ V) = ((2 ^ V : Nat) : Int) := by
  have h1 : (2 : Nat) ^ V ≤ 2 ^ 24 := Nat.pow_le_pow_right (by omega) h
  rw [show (2 : Int) ^ V = ((2 ^ V : Nat) : Int) by simp]
  generalize (2 : Nat) ^ V = z at h1 ⊢
  unfold wrap64; omega
theorem lt_pow24 {V s : Nat} (h : V ≤ 24) (hs : s < 2 ^ V) : s < 16777216 := Nat.lt_of_lt_of_le hs (Nat.pow_le_pow_right (by omega) h : 2 ^ V ≤ 2 ^ 24)
/-- Bools that can be read. -/
def BoolsAt (w : World) (v : Value) (bs : List Bool) : Prop :=
  ∃ (a : Option Addr) (c : Nat), v = .slice a bs.length c ∧ bs.length ≤ c ∧ bs.length ≤ 1000000 ∧ ∀ i (_ : i < bs.length), ∃ b o, a = some ⟨b, o, none⟩ ∧ w.cell? ⟨b, o + i, none⟩ = some (.bool (bs.getD i false))
theorem BoolsAt.kept {w w' : World} {v : Value} {bs : List Bool} (h : BoolsAt w v bs) (hk : Kept w w') : BoolsAt w' v bs := by
  obtain ⟨a, c, h1, h2, h3, h4⟩ := h
  exact ⟨a, c, h1, h2, h3, fun i hi => let ⟨b, o, h5, h6⟩ := h4 i hi; ⟨b, o, h5, hk.cell h6⟩⟩
theorem OwnBools.at {w : World} {B : Nat} {v : Value} {bs : List Bool} (h : OwnBools w B v bs) : BoolsAt w v bs := by
  obtain ⟨a, c, rfl, hc⟩ := h.slice
  refine ⟨a, c, rfl, hc, h.2, fun i hi => ?_⟩
  obtain ⟨g, cap, hge, _⟩ := h.shape (by intro e; rw [e] at hi; simp at hi)
  injection hge with h1 h2 h3
  subst h1 h3
  exact ⟨g, 0, rfl, by simpa using h.cell i hi⟩
theorem own_emptyB (w : World) (B : Nat) (hB : B ≤ w.heap.size) : OwnBools (w.alloc (.cells #[] 4)) B (.slice (some ⟨w.heap.size, 0, none⟩) 0 0) [] :=
  ⟨⟨by simp, .inr ⟨w.heap.size, 0, #[], rfl, hB, heap_alloc_new w _, Nat.le_refl _, by unfold maxLen; omega, by simp, by simp⟩⟩, by simp⟩
/-- append of a whole slice of bools. -/
theorem app_bools {ops : Array Oper} {rest : List Oper} {o : Oper} {a : Act} {Q : Exit → Act → World → Prop} {w : World} (hgd : o.guard = none) (s x : Operand)
    (ho : o.op = .call { callee := .builtin .append, args := #[s, x], argTypes := #[54, 54] }) (B : Nat) (v : Value) (xs : List Bool) (hs : a.eval s = v) (hown : OwnBools w B v xs)
    (ad : Addr) (c : Nat) (ys : List Bool) (hx : a.eval x = .slice (some ad) ys.length c) (hu : BoolsAt w (.slice (some ad) ys.length c) ys) (hl : xs.length + ys.length ≤ 1000000) (hB : B ≤ w.heap.size)
    (h : ∀ v' w', OwnBools w' B v' (xs ++ ys) → Below B w w' → wpList Try.prog ops Q rest (a.put o.dst v') w') : wpList Try.prog ops Q (o :: rest) a w := by
  obtain ⟨i0, hi0, hz0, hz1, hz2⟩ := info_parts info_bool
  obtain ⟨a', c', h1, h2, h3, h4⟩ := hu
  cases h1
  refine wpList_append_own _ hgd s x 54 ho B 4 i0 _ 1 1 Try.underlying54 hi0 hz0 hz1 hz2 rfl (by decide) v xs.length _ hs hown.1 ad ys.length c (ys.map .bool) hx (by simp) ?_ ?_ (by simp [maxLen]; omega) (by omega) hB ?_
  · intro j u hj
    have hj' : j < ys.length := by
      rcases Nat.lt_or_ge j ys.length with h | h
      · exact h
      · rw [List.getElem?_eq_none (by simpa using h)] at hj; cases hj
    obtain ⟨b, o, h5, h6⟩ := h4 j hj'
    cases h5
    simp [hj'] at hj
    subst hj
    rw [show ({ block := b, off := o } : Addr).add j = ⟨b, o + j, none⟩ by unfold Addr.add; split <;> simp_all, h6]
    simp [List.getD_eq_getElem?_getD, hj']
  · intro u hu; obtain ⟨y, _, rfl⟩ := List.mem_map.1 hu; rfl
  · intro v' w' h5 h6 _
    exact h v' w' ⟨by simpa using h5, by simp; omega⟩ (grown_below h6 hown.1 hB)
set_option maxRecDepth 100000 in
theorem cloneB_any (a : Option Addr) (ha : a.isNone = false) (c : Nat) (bs : List Bool) (n : Nat) (hn : n = bs.length) (w : World) (hv : BoolsAt w (.slice a n c) bs) :
    Calls Try.prog 74 #[.slice a n c] w fun e w' => (∃ v', e = .returned v' ∧ BoolsAt w' v' bs) ∧ Kept w w' := by
  subst hn
  obtain ⟨ad, rfl⟩ : ∃ ad, a = some ad := by
    cases a with
    | none => cases ha
    | some ad => exact ⟨ad, rfl⟩
  clear ha
  have hl : bs.length ≤ 1000000 := by obtain ⟨_, _, _, _, h, _⟩ := hv; exact h
  have HV := Lib.hid hv
  clear hv
  have hnl : ∀ w : World, (binOp .eql 54 (.slice (some ad) bs.length c) (.slice none 0 0)).run Try.prog w = .ok (.bool false) w := fun w => Lib.run_eql_slice_nil w 54 4 (some ad) bs.length c 0 0 Try.underlying54
  go_enter Try.func74, Try.ntmps74
  go_wp2_with (at_builtin; refine app_bools rfl _ _ rfl w.heap.size _ [] rfl (own_emptyB w _ (Nat.le_refl _)) ad c bs rfl (HV.out.kept ((Kept.refl _).alloc _)) (by simp; omega) (by simp) ?_; intro v7 w7 hown7 hb7; have O7 := Lib.hid hown7; have HB7 := Lib.hid hb7; clear hown7 hb7)
  go_ret
  exact ⟨⟨_, rfl, O7.out.at⟩, ((Kept.refl _).alloc _).app HB7.out⟩
set_option maxRecDepth 100000 in
theorem fmcheck_ok (v : Value) (f : Fm) (V T s : Nat) (w : World) (hv : NodesAt w v f.nodes) (hok : Ok f V T) (hck : chkF f = 0) (hs : s < 2 ^ V) :
    Calls Try.prog 73 #[.agg #[.int .i64 V, v, .int .i64 T], .int .i64 s] w fun e w' => e = .returned .nilIface ∧ Kept w w' := by
  have hT := hok.tlt
  have hn := hok.n128
  have hV := hok.v24
  have hfm : fmV v f = .agg #[.int .i64 V, v, .int .i64 T] := by unfold fmV; rw [hok.vars, hok.top]
  have H : Hid (∀ W, Kept w W → Calls Try.prog 27 #[.agg #[.int .i64 V, v, .int .i64 T]] W fun e w' => e = .returned .nilIface ∧ Kept W w') := Lib.hid fun W hk => by
    have := check_any v f W (hv.kept hk) (by rw [hok.top]; omega)
    rw [hck, hfm] at this
    exact this
  obtain ⟨a, c, rfl, _⟩ := hv
  have e1 := shlW V hV
  have e2 : ¬ ((2 ^ V : Nat) : Int) ≤ (s : Int) := by omega
  have e3 : (s : Int) < ((2 ^ V : Nat) : Int) := by omega
  obtain ⟨z, hz⟩ : ∃ z, z = 2 ^ V := ⟨_, rfl⟩
  rw [← hz] at e1 e2 e3
  have b1 : decide ((s : Int) < 0) = false := by simp
  have b2 : decide ((z : Int) ≤ (s : Int)) = false := by simpa using e2
  clear hs hok hck hfm hz hT hn
  go_enter Try.func73, Try.ntmps73
  go_wp2_with fail
  refine (H.out _ ((Kept.refl _).alloc _)).mono ?_
  rintro e w1 ⟨rfl, hk1⟩
  have c0 := hk1.cell (p := ⟨w.heap.size, 0, none⟩) (v := .int .i64 V) (by simp)
  go_wp2
  go_ret
  exact ⟨rfl, ((Kept.refl _).alloc _).trans hk1⟩
set_option maxRecDepth 100000 in
set_option maxHeartbeats 2000000 in
theorem value_any (v : Value) (f : Fm) (V T s : Nat) (w : World) (hv : NodesAt w v f.nodes) (hok : Ok f V T) (hck : chkF f = 0) (hs : s < 2 ^ V) :
    Calls Try.prog 41 #[.agg #[.int .i64 V, v, .int .i64 T], .int .i64 s] w fun e w' => e = .returned (.tuple #[.bool ((valsK V s f.nodes).getD T false), .nilIface]) ∧ Kept w w' := by
  have HC : Hid (∀ W, Kept w W → Calls Try.prog 73 #[.agg #[.int .i64 V, v, .int .i64 T], .int .i64 s] W fun e w' => e = .returned .nilIface ∧ Kept W w') := Lib.hid fun W hk => fmcheck_ok v f V T s W (hv.kept hk) hok hck hs
  have HV : Hid (∀ W, Kept w W → Calls Try.prog 75 #[.agg #[.int .i64 V, v, .int .i64 T], .int .i64 s] W fun e w' => (∃ v', e = .returned v' ∧ OwnBools w' W.heap.size v' (valsK V s f.nodes)) ∧ Kept W w') := Lib.hid fun W hk => (values_any v f V T s W (hv.kept hk) hok (lt_pow24 hok.v24 hs)).mono fun _ _ ⟨⟨v', h1, h2, _⟩, h3⟩ => ⟨⟨v', h1, h2⟩, h3⟩
  have hT := hok.tlt
  have hn := hok.n128
  have hV := hok.v24
  have hlen : (valsK V s f.nodes).length = V + f.nodes.length := len_valsUp V s f.nodes f.nodes.length
  obtain ⟨vals, hvals⟩ : ∃ x, x = valsK V s f.nodes := ⟨_, rfl⟩
  rw [← hvals] at HV hlen ⊢
  have HL := Lib.hid hlen
  obtain ⟨a, c, rfl, _⟩ := hv
  obtain ⟨n, hnn⟩ : ∃ n, n = f.nodes.length := ⟨_, rfl⟩
  rw [← hnn] at HL hT hn HC HV ⊢
  have hT1 : (T : Int) < ((V + n : Nat) : Int) := by omega
  have hT2 : (T : Int) < (V : Int) + (n : Int) := by omega
  clear hs hok hck hvals hlen hnn
  go_enter Try.func41, Try.ntmps41
  go_wp2_with fail
  refine (HC.out _ ((Kept.refl _).alloc _)).mono ?_
  rintro e w1 ⟨rfl, hk1⟩
  have K1 := Lib.hid hk1
  have c0 := hk1.cell (p := ⟨w.heap.size, 0, none⟩) (v := .int .i64 V) (by simp)
  have c1 := hk1.cell (p := ⟨w.heap.size, 1, none⟩) (v := .slice a n c) (by simp)
  have c2 := hk1.cell (p := ⟨w.heap.size, 2, none⟩) (v := .int .i64 T) (by simp)
  clear hk1
  go_wp2_with fail
  go_region_with (go_at_call 75; refine (HV.out _ ((((Kept.refl _).alloc _).trans K1.out).trans (Kept.refl _).drew)).mono ?_; rintro e w5 ⟨⟨v5, rfl, hv5⟩, hk5⟩; obtain ⟨g5, c5, rfl, _, _, _⟩ := hv5.shape (by intro e; have := HL.out; rw [e] at this; simp at this; omega); have hc5 := hv5.cell T (by have := HL.out; omega); rw [HL.out]; have d0 := hk5.cell c0; have d1 := hk5.cell c1; have d2 := hk5.cell c2)
  all_goals (go_wp2_with fail)
  all_goals go_ret2
  all_goals exact ⟨rfl, (((Kept.refl _).alloc _).trans K1.out).trans ((Kept.refl _).drew.trans hk5)⟩
/-- v[k:], k below the capacity. -/
theorem OwnBools.drop {w : World} {B g m cap : Nat} {bs : List Bool} (h : OwnBools w B (.slice (some ⟨g, 0, none⟩) m cap) bs) (k : Nat) (hk : k ≤ bs.length) : BoolsAt w (.slice (some ⟨g, k, none⟩) (bs.length - k) (cap - k)) (bs.drop k) := by
  obtain ⟨a', c', h1, h2⟩ := h.slice
  injection h1 with h3 h4 h5
  subst h4 h5
  refine ⟨some ⟨g, k, none⟩, cap - k, by simp, by simp; omega, by simp; have := h.2; omega, fun i hi => ?_⟩
  simp only [List.length_drop] at hi
  refine ⟨g, k, rfl, ?_⟩
  have := h.cell (k + i) (by omega)
  simpa [List.getD_eq_getElem?_getD] using this
set_option maxRecDepth 100000 in
set_option maxHeartbeats 2000000 in
theorem valuesN_any (v : Value) (f : Fm) (V T s : Nat) (w : World) (hv : NodesAt w v f.nodes) (hok : Ok f V T) (hck : chkF f = 0) (hs : s < 2 ^ V) :
    Calls Try.prog 37 #[.agg #[.int .i64 V, v, .int .i64 T], .int .i64 s] w fun e w' => (∃ v', e = .returned (.tuple #[v', .nilIface]) ∧ BoolsAt w' v' ((valsK V s f.nodes).drop V)) ∧ Kept w w' := by
  have HC : Hid (∀ W, Kept w W → Calls Try.prog 73 #[.agg #[.int .i64 V, v, .int .i64 T], .int .i64 s] W fun e w' => e = .returned .nilIface ∧ Kept W w') := Lib.hid fun W hk => fmcheck_ok v f V T s W (hv.kept hk) hok hck hs
  have HV : Hid (∀ W, Kept w W → Calls Try.prog 75 #[.agg #[.int .i64 V, v, .int .i64 T], .int .i64 s] W fun e w' => (∃ v', e = .returned v' ∧ OwnBools w' W.heap.size v' (valsK V s f.nodes) ∧ (f.nodes.length = 0 → ∃ g, v' = .slice (some ⟨g, 0, none⟩) V V)) ∧ Kept W w') := Lib.hid fun W hk => values_any v f V T s W (hv.kept hk) hok (lt_pow24 hok.v24 hs)
  have hT := hok.tlt
  have hn := hok.n128
  have hV := hok.v24
  have hlen : (valsK V s f.nodes).length = V + f.nodes.length := len_valsUp V s f.nodes f.nodes.length
  obtain ⟨vals, hvals⟩ : ∃ x, x = valsK V s f.nodes := ⟨_, rfl⟩
  rw [← hvals] at HV hlen ⊢
  have HL := Lib.hid hlen
  obtain ⟨a, c, rfl, _⟩ := hv
  obtain ⟨n, hnn⟩ : ∃ n, n = f.nodes.length := ⟨_, rfl⟩
  rw [← hnn] at HL hT hn HC HV ⊢
  clear hs hok hck hvals hlen hnn
  by_cases hn0 : n = 0
  · subst hn0
    have HD : Hid (∀ W g, BoolsAt W (.slice (some ⟨g, 0, none⟩) 0 0) (vals.drop V)) := Lib.hid fun W g => by
      have e : vals.drop V = [] := List.drop_of_length_le (by have := HL.out; omega)
      rw [e]
      exact ⟨_, 0, rfl, by simp, by simp, fun i hi => by simp at hi⟩
    have HDL : Hid (0 = (vals.drop V).length) := Lib.hid (by have := HL.out; simp; omega)
    have hVV : (V : Int) ≤ (V : Int) := by omega
    go_enter Try.func37, Try.ntmps37
    go_wp2_with fail
    refine (HC.out _ ((Kept.refl _).alloc _)).mono ?_
    rintro e w1 ⟨rfl, hk1⟩
    have K1 := Lib.hid hk1
    have c0 := hk1.cell (p := ⟨w.heap.size, 0, none⟩) (v := .int .i64 V) (by simp)
    have c1 := hk1.cell (p := ⟨w.heap.size, 1, none⟩) (v := .slice a 0 c) (by simp)
    have c2 := hk1.cell (p := ⟨w.heap.size, 2, none⟩) (v := .int .i64 T) (by simp)
    clear hk1
    go_wp2_with fail
    go_region_with (first
      | (go_at_call 75; refine (HV.out _ ((((Kept.refl _).alloc _).trans K1.out).trans (Kept.refl _).drew)).mono ?_; rintro e w5 ⟨⟨v5, rfl, hv5, hg5⟩, hk5⟩; obtain ⟨g5, rfl⟩ := hg5 (by simp); have d0 := hk5.cell c0; have d1 := hk5.cell c1; have d2 := hk5.cell c2; clear hg5)
      | (go_at_call 74; refine (cloneB_any _ rfl _ (vals.drop V) _ HDL.out _ (HD.out _ _)).mono ?_; rintro e w6 ⟨⟨v6, rfl, hv6⟩, hk6⟩))
    all_goals (go_wp2_with fail)
    all_goals go_ret2
    all_goals exact ⟨⟨_, rfl, hv6⟩, ((((Kept.refl _).alloc _).trans K1.out).trans ((Kept.refl _).drew.trans hk5)).trans hk6⟩
  · have hT1 : (V : Int) ≤ ((V + n : Nat) : Int) := by omega
    have hT2 : (V : Int) ≤ (V : Int) + (n : Int) := by omega
    have HDL : Hid (n = (vals.drop V).length) := Lib.hid (by have := HL.out; simp; omega)
    have HVn : Hid (∀ W, Kept w W → Calls Try.prog 75 #[.agg #[.int .i64 V, .slice a n c, .int .i64 T], .int .i64 s] W fun e w' => (∃ g cap, e = .returned (.slice (some ⟨g, 0, none⟩) (V + n) cap) ∧ (V + n ≤ cap ∧ ¬ cap = V) ∧ BoolsAt w' (.slice (some ⟨g, V, none⟩) n (cap - V)) (vals.drop V)) ∧ Kept W w') := Lib.hid fun W hk => by
      refine (HV.out W hk).mono ?_
      rintro e w' ⟨⟨v5, rfl, hv5, _⟩, hk5⟩
      obtain ⟨g5, c5, rfl, _, _, hcc5⟩ := hv5.shape (by intro e; have := HL.out; rw [e] at this; simp at this; omega)
      have hd := hv5.drop V (by have := HL.out; omega)
      have hl := HL.out
      rw [hl] at hcc5 hd ⊢
      rw [show V + n - V = n by omega] at hd
      exact ⟨⟨g5, c5, rfl, ⟨hcc5, by omega⟩, hd⟩, hk5⟩
    have HN0 := Lib.hid hn0
    clear hn0 HV
    go_enter Try.func37, Try.ntmps37
    go_wp2_with fail
    refine (HC.out _ ((Kept.refl _).alloc _)).mono ?_
    rintro e w1 ⟨rfl, hk1⟩
    have K1 := Lib.hid hk1
    have c0 := hk1.cell (p := ⟨w.heap.size, 0, none⟩) (v := .int .i64 V) (by simp)
    have c1 := hk1.cell (p := ⟨w.heap.size, 1, none⟩) (v := .slice a n c) (by simp)
    have c2 := hk1.cell (p := ⟨w.heap.size, 2, none⟩) (v := .int .i64 T) (by simp)
    clear hk1
    go_wp2_with fail
    go_region_with (first
      | (go_at_call 75; refine (HVn.out _ ((((Kept.refl _).alloc _).trans K1.out).trans (Kept.refl _).drew)).mono ?_; rintro e w5 ⟨⟨g5, c5, rfl, ⟨hcc5, hcne⟩, hv5⟩, hk5⟩; have hcI : (V : Int) ≤ (c5 : Int) := (by omega); have hcI2 : ((V + n : Nat) : Int) ≤ (c5 : Int) := (by omega); have HD := Lib.hid hv5; clear hv5; have d0 := hk5.cell c0; have d1 := hk5.cell c1; have d2 := hk5.cell c2)
      | (go_at_call 74; refine (cloneB_any _ rfl _ (vals.drop V) _ HDL.out _ HD.out).mono ?_; rintro e w6 ⟨⟨v6, rfl, hv6⟩, hk6⟩))
    all_goals (go_wp2_with fail)
    all_goals go_ret2
    all_goals exact ⟨⟨_, rfl, hv6⟩, ((((Kept.refl _).alloc _).trans K1.out).trans ((Kept.refl _).drew.trans hk5)).trans hk6⟩
end Go.Proofs.Ytapniojbnochiaa
