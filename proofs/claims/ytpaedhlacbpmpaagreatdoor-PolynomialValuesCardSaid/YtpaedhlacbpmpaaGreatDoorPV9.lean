import Derived.Test.YtpaedhlacbpmpaaGreatDoorPX1
import Derived.Test.YtpaedhlacbpmpaaGreatDoorPX2
import Derived.Test.YtpaedhlacbpmpaaGreatDoorPX3
import Derived.Test.YtpaedhlacbpmpaaGreatDoorPX4
import Derived.Test.YtpaedhlacbpmpaaGreatDoorPX5
import Derived.Test.YtpaedhlacbpmpaaGreatDoorPX6
import Derived.Test.YtpaedhlacbpmpaaGreatDoorPX7
import Derived.Test.YtpaedhlacbpmpaaGreatDoorPV8
import Derived.Test.YtpaedhlacbpmpaaGreatDoorPV4
/-
  Walks: faultlineref20.Eval. Printed by gen_PJ.py.
-/
namespace Go.Proofs.YtpaedhlacbpmpaaGreatDoor
open Go.RowKit

theorem prodE_q {s : Nat} {ps : List Rw} (hs : s < 16777216) (hg : gtK s < (ps.length : Int)) : prodE (elemsK s) ps (elemsK s).length = prodQ s ps (min ps.length 24) := by
  rw [prodE_all hs hg]
  by_cases h : ps.length ≤ 24
  · rw [Nat.min_eq_left h]
  · rw [Nat.min_eq_right (by omega)]
    exact prodQ_high (fun i hi => bit_high hs hi) (by omega)
theorem elems_top {s : Nat} {m : Nat} (hs : s < 16777216) (h : ∀ i ∈ elemsK s, i < m) : gtK s < (m : Int) := by
  cases hb : decide (gtK s < (m : Int)) with
  | true => exact of_decide_eq_true hb
  | false =>
    exfalso
    have hb := of_decide_eq_false hb
    have h9 := last_elem hs
    cases he : elemsK s with
    | nil => rw [he] at h9; simp only [List.foldl_nil] at h9; omega
    | cons a l =>
      have h2 : ∀ (l : List Nat) (z : Int), (∀ i ∈ l, i < m) → z < m → l.foldl (fun (_ : Int) (i : Nat) => (i : Int)) z < m := by
        intro l
        induction l with
        | nil => intro z _ hz; exact hz
        | cons b l ih => intro z hl _; exact ih _ (fun i hi => hl i (List.mem_cons_of_mem _ hi)) (by have := hl b (List.mem_cons_self ..); show (b : Int) < m; omega)
      have h3 := h2 (elemsK s) (-1) h (by omega)
      omega
theorem ecs {L : List Nat} {xs : List Rw} {c : Rat} {A : Nat} (hA : 1 ≤ A) (hc : (canR c).Short A) (hs : ∀ r ∈ xs, r.Short 4) (hok : ∀ r ∈ xs, r.Ok) : ∀ k, k ≤ L.length → (∀ i ∈ L.take k, i < xs.length) → (canR (c * prodE L xs k)).Short (A + 4 * k) := by
  intro k
  induction k with
  | zero => intro _ _; rw [show c * prodE L xs 0 = c from Rat.mul_one c]; exact hc
  | succ k ih =>
    intro hk hL
    have hkl : k < L.length := by omega
    rw [List.take_succ_eq_append_getElem hkl] at hL
    have ih := ih (by omega) (fun i hi => hL i (List.mem_append_left _ hi))
    have hi := hL L[k] (List.mem_append_right _ (List.mem_singleton.2 rfl))
    have hx : xs.getD L[k] default = xs[L[k]] := by simp [List.getD_eq_getElem?_getD, hi]
    rw [prodE_succ xs hkl, ← Rat.mul_assoc]
    have h := short_mul (canR_ok (c * prodE L xs k)) (hok _ (List.getElem_mem hi)) ih (hs _ (List.getElem_mem hi)) (by omega) (by omega)
    rw [ratOf_can, ← hx] at h
    exact ⟨Nat.le_trans h.1 (by omega), Nat.le_trans h.2 (by omega)⟩
/-- What the reference's Eval answers. -/
def EvR (xs : List Rw) (p : Pol) (w' : World) (e : Ending) : Prop :=
  (∃ v', (∀ t ∈ p, gtK t.1 < (xs.length : Int)) ∧ e = .returned (.tuple #[v', .int .i64 0]) ∧ RatAt w' v' (canR (evQ xs p))) ∨
  (¬ (∀ t ∈ p, gtK t.1 < (xs.length : Int)) ∧ e = .returned (.tuple #[.agg #[.bool false, .slice none 0 0, .slice none 0 0], .int .i64 11]))
set_option maxRecDepth 100000 in
set_option maxHeartbeats 16000000 in
theorem reval_any (v xv : Value) (p : Pol) (xs : List Rw) (w : World) (hp : TrmsAt w v (polT p)) (hx : RatsAt w xv xs) (sp : Sm 1000 64 p) (hx4 : ∀ r ∈ xs, r.Short 4) :
    Calls Tryz.prog 35 #[v, xv] w fun e w' => EvR xs p w' e ∧ Kept w w' := by
  have HTK : Hid (∀ j (h : j < p.length), evQ xs (p.take (j + 1)) = evQ xs (p.take j) + p[j].2 * prodQ p[j].1 xs (min xs.length 24)) := Lib.hid fun j h => ev_take h
  have HSV : Hid (∀ j, j ≤ p.length → (canR (evQ xs (p.take j))).Short 34359738368) := Lib.hid fun j hj => by
    have h := ev_short (A := 1000) (by omega) sp.sh hx4 hx.ok j hj
    have := sp.len
    have h2 : 1097 * j ≤ 1097 * 64 := Nat.mul_le_mul_left _ (by omega)
    exact ⟨Nat.le_trans h.1 (by omega), Nat.le_trans h.2 (by omega)⟩
  have HCP : Hid (∀ (L : List Nat) c k, L.length ≤ 24 → (canR c).Short 1000 → k ≤ L.length → (∀ i ∈ L.take k, i < xs.length) → (canR (c * prodE L xs k)).Short 2000) := Lib.hid fun L c k hL hc hk hi => by
    have h := ecs (by omega) hc hx4 hx.ok k hk hi
    exact ⟨Nat.le_trans h.1 (by omega), Nat.le_trans h.2 (by omega)⟩
  have HPQ : Hid (∀ s, s < 16777216 → gtK s < (xs.length : Int) → prodE (elemsK s) xs (elemsK s).length = prodQ s xs (min xs.length 24)) := Lib.hid fun s h1 h2 => prodE_q h1 h2
  obtain ⟨a, ac, rfl⟩ := hp.shape
  obtain ⟨xa, xc, rfl⟩ := hx.shape
  obtain ⟨n, hn⟩ : ∃ n, n = p.length := ⟨_, rfl⟩
  obtain ⟨m, hm⟩ : ∃ m, m = xs.length := ⟨_, rfl⟩
  rw [polT_len, ← hn] at hp ⊢
  rw [← hm] at hx HCP ⊢
  have hnl : n ≤ 64 := by rw [hn]; exact sp.len
  have HP := Lib.hid hp
  have HXV := Lib.hid hx
  have HN := Lib.hid hn
  have HM := Lib.hid hm
  have HSP := Lib.hid sp.sh
  have HX4 := Lib.hid hx4
  have HBP := Lib.hid sp.acc.bit
  have HGOOD : Hid (∀ w' v', (∀ t ∈ p, gtK t.1 < (m : Int)) → RatAt w' v' (canR (evQ xs p)) → EvR xs p w' (.returned (.tuple #[v', .int .i64 0]))) := Lib.hid fun w' v' h1 h2 => .inl ⟨_, by rw [← hm]; exact h1, rfl, h2⟩
  have HBAD : Hid (∀ w' (t : Nat × Rat) (i : Nat), t ∈ p → i ∈ elemsK t.1 → m ≤ i → EvR xs p w' (.returned (.tuple #[.agg #[.bool false, .slice none 0 0, .slice none 0 0], .int .i64 11]))) := Lib.hid fun w' t i ht hi hmi => .inr ⟨fun h => by
    have h1 := h t ht
    have h2 := bit_gt (sp.acc.bit t ht) (elems_lt hi).2
    rw [← hm] at h1
    omega, rfl⟩
  obtain ⟨POST, hPOST⟩ : ∃ P : World → Ending → Prop, P = EvR xs p := ⟨_, rfl⟩
  rw [← hPOST] at HGOOD HBAD ⊢
  obtain ⟨w0, hw0⟩ : ∃ w0, w0 = w.alloc (.cells #[.bool false, .slice none 0 0, .slice none 0 0] 38) := ⟨_, rfl⟩
  have HR0 : Hid (RatCell w0 w.heap.size ⟨false, [], []⟩) := Lib.hid (by rw [hw0]; exact RatCell.zero w)
  have HK0 : Hid (Kept w w0) := Lib.hid (by rw [hw0]; exact (Kept.refl _).alloc _)
  have HW0 := Lib.hid hw0
  have HZ0 : Hid (w0.heap.size = w.heap.size + 1) := Lib.hid (by rw [hw0]; simp)
  have HZ1 : Hid (w.heap.size < w.heap.size + 1) := Lib.hid (Nat.lt_succ_self _)
  obtain ⟨w2, hw2⟩ : ∃ w2, w2 = w0.alloc (.cells #[.bool false, .slice none 0 0, .slice none 0 0] 38) := ⟨_, rfl⟩
  have HC2 : Hid (RatCell w2 (w.heap.size + 1) (canR (evQ xs (p.take 0)))) := Lib.hid (by rw [hw2, ← HZ0.out]; exact RatCell.zero w0)
  have HR2 : Hid (RatCell w2 w.heap.size ⟨false, [], []⟩) := Lib.hid (HR0.out.kept (by rw [hw2]; exact (Kept.refl _).alloc _))
  have HK2 : Hid (Kept w w2) := Lib.hid (HK0.out.trans (by rw [hw2]; exact (Kept.refl _).alloc _))
  have HW2 := Lib.hid hw2
  clear hw2 hp hx sp hn hm hx4 hw0 hPOST
  go_enter Tryz.func35, Tryz.ntmps35
  go_wp2_with fail
  rw [← HW0.out, ← HW2.out]
  go_loopg [15] n (fun kx sj wr => ∃ j : Nat, j ≤ n ∧ sj = .int .i64 j ∧ n - j ≤ kx ∧ Hid (RatCell wr (w.heap.size + 1) (canR (evQ xs (p.take j)))) ∧ Hid (RatCell wr w.heap.size ⟨false, [], []⟩) ∧ Hid (Kept w wr) ∧ Hid (∀ t ∈ p.take j, gtK t.1 < (m : Int)))
  case atStart => exact ⟨0, Nat.zero_le _, rfl, by omega, HC2, HR2, HK2, Lib.hid (fun t ht => by cases ht)⟩
  case round =>
    obtain ⟨j, hj, rfl, hjx, HC, HR, HKr, HGO⟩ := hrel
    obtain ⟨wi, rfl⟩ : ∃ wi : World, wi = wr := ⟨_, rfl⟩
    by_cases hlt : j < n
    · have hjn : (j : Int) < (n : Int) := by omega
      have hjl : j < p.length := by rw [← HN.out]; exact hlt
      obtain ⟨b, o, y1, y2, y3, a1, c1, a2, c2, rfl, z0, z1, z2, z3, HRT⟩ := (HP.out.kept HKr.out).term j hjl
      obtain ⟨t, ht⟩ : ∃ t, t = p[j].1 := ⟨_, rfl⟩
      obtain ⟨c, hc⟩ : ∃ c, c = p[j].2 := ⟨_, rfl⟩
      have hcs : (canR c).Short 1000 := by rw [hc]; exact HSP.out _ (List.getElem_mem _)
      have ht24 : t < 16777216 := by rw [ht]; exact HBP.out _ (List.getElem_mem _)
      have HST := Lib.hid (HTK.out j hjl)
      rw [← ht, ← hc] at HST
      have HSJ := Lib.hid (HSV.out j (Nat.le_of_lt hjl))
      have HEL := Lib.hid (fun W => elems_any t ht24 W)
      have hLl : (elemsK t).length ≤ 24 := elems_len t 24
      obtain ⟨L, hL⟩ : ∃ L, L = elemsK t := ⟨_, rfl⟩
      have HCK : Hid (∀ k, k ≤ L.length → (∀ i ∈ L.take k, i < m) → (canR (c * prodE L xs k)).Short 2000) := Lib.hid fun k hk hi => HCP.out L c k (by rw [hL]; exact hLl) hcs hk hi
      have HBADj : Hid (∀ w' i, i ∈ L → m ≤ i → POST w' (.returned (.tuple #[.agg #[.bool false, .slice none 0 0, .slice none 0 0], .int .i64 11]))) := Lib.hid fun w' i hi hmi => HBAD.out w' p[j] i (List.getElem_mem _) (by rw [← ht, ← hL]; exact hi) hmi
      have HEND : Hid ((∀ i ∈ L, i < m) → c * prodE L xs L.length = c * prodQ t xs (min xs.length 24) ∧ ∀ u ∈ p.take (j + 1), gtK u.1 < (m : Int)) := Lib.hid fun h => by
        have h1 := elems_top ht24 (by rw [← hL]; exact h)
        refine ⟨?_, fun u hu => ?_⟩
        · rw [hL, HPQ.out t ht24 (by rw [← HM.out]; exact h1)]
        · rw [List.take_succ_eq_append_getElem hjl] at hu
          rcases List.mem_append.1 hu with hu | hu
          · exact HGO.out u hu
          · rw [List.mem_singleton.1 hu, ← ht]; exact h1
      rw [← hL] at HEL hLl
      rw [← ht] at z0
      rw [← hc] at HRT
      clear ht hc hcs hL
      obtain ⟨w3, hw3⟩ : ∃ w3, w3 = wi.alloc (.cells #[.int .i64 t, .bool y1, .slice a1 y2 c1, .slice a2 y3 c2] 83) := ⟨_, rfl⟩
      have HX3 : Hid (RowAt w3 wi.heap.size 83 [.int .i64 t, .bool y1, .slice a1 y2 c1, .slice a2 y3 c2]) := Lib.hid (by rw [hw3]; exact RowAt.made wi #[.int .i64 t, .bool y1, .slice a1 y2 c1, .slice a2 y3 c2] 83)
      have HK3 : Hid (Kept wi w3) := Lib.hid (by rw [hw3]; exact (Kept.refl wi).alloc _)
      have HW3 := Lib.hid hw3
      have HR3 := Lib.hid (HRT.out.kept HK3.out)
      clear hw3
      obtain ⟨x0, x1, x2, x3⟩ := trm4_at HX3.out
      obtain ⟨n4, l4, m4, e1, f1, e2, f2, w5, he, hw5, _, hc5, hk5, _, _⟩ := HR3.out.boxc
      simp only [Value.agg.injEq, Array.mk.injEq, List.cons.injEq, Value.bool.injEq, Value.slice.injEq, and_true] at he
      obtain ⟨rfl, ⟨rfl, rfl, rfl⟩, rfl, rfl, rfl⟩ := he
      have HC5 : Hid (RatCell w5 w3.heap.size (canR (c * prodE L xs 0))) := Lib.hid (by rw [show c * prodE L xs 0 = c from Rat.mul_one c]; exact hc5)
      have HK5 := Lib.hid hk5
      have HW5 := Lib.hid hw5
      have q0 := hk5.cell x0
      have HEL5 := Lib.hid (HEL.out w5)
      clear hc5 hk5 hw5 HR3 HRT
      go_upto_region 5 with fail
      rw [← HW3.out]
      clear z0 z1 z2 z3
      go_upto_region 6 with fail
      rw [← HW5.out]
      go_wp2_with fail
      refine HEL5.out.mono ?_
      rintro e w6 ⟨⟨v6, rfl, hv6⟩, hk6⟩
      have HC6 := Lib.hid (HC5.out.kept hk6)
      have HK6 := Lib.hid (HK5.out.trans hk6)
      obtain ⟨ln, hln⟩ : ∃ ln, ln = L.length := ⟨_, rfl⟩
      have hnL : ln = (ofN L).length := by rw [hln]; unfold ofN; rw [List.length_map]
      obtain ⟨ae, ce, rfl, _⟩ := id hv6
      rw [← hnL] at hv6 ⊢
      rw [← hln] at hLl
      have HXE := Lib.hid hv6
      have HNL := Lib.hid hnL
      have HLN := Lib.hid hln
      clear hk6 hv6 hnL hln x0 x1 x2 x3 q0
      go_wp2_with fail
      go_loopg [25] ln (fun ky s25 wq => ∃ k : Nat, k ≤ ln ∧ s25 = .int .i64 k ∧ ln - k ≤ ky ∧ Hid (RatCell wq w3.heap.size (canR (c * prodE L xs k))) ∧ Hid (Kept w3 wq) ∧ Hid (IntsAt wq (.slice ae ln ce) (ofN L)) ∧ Hid (∀ i ∈ L.take k, i < m))
      case atStart => exact ⟨0, Nat.zero_le _, rfl, by omega, HC6, HK6, HXE, Lib.hid (fun t ht => by cases ht)⟩
      case round =>
        obtain ⟨k, hk, rfl, hky, HX, HKq, HXI, HIN⟩ := hrel
        obtain ⟨wj, rfl⟩ : ∃ wj : World, wj = wr := ⟨_, rfl⟩
        have HKw := Lib.hid ((HKr.out.trans HK3.out).trans HKq.out)
        by_cases hlt2 : k < ln
        · have hkn : (k : Int) < (ln : Int) := by omega
          have hkL : k < L.length := by have := HLN.out; omega
          obtain ⟨i, hi⟩ : ∃ i, i = L[k] := ⟨_, rfl⟩
          have HIL : Hid (i ∈ L) := Lib.hid (by rw [hi]; exact List.getElem_mem _)
          have HINS : Hid (i < m → ∀ x ∈ L.take (k + 1), x < m) := Lib.hid fun him x hx => by
            rw [List.take_succ_eq_append_getElem hkL] at hx
            rcases List.mem_append.1 hx with hx | hx
            · exact HIN.out x hx
            · rw [List.mem_singleton.1 hx, ← hi]; exact him
          obtain ⟨ae', ce', he1, _, _, he2⟩ := HXI.out
          injection he1 with he3 he4 he5
          subst he3
          obtain ⟨be, oe, rfl, hce⟩ := he2 k (by rw [← HNL.out]; exact hlt2)
          have e1 : (ofN L)[k]'(by rw [← HNL.out]; exact hlt2) = (i : Int) := by rw [hi]; simp [ofN]
          rw [e1] at hce
          have HSE : Hid (canR (c * prodE L xs (k + 1)) = canR (ratOf (canR (c * prodE L xs k)) * ratOf (xs.getD i default))) := Lib.hid (by rw [prodE_succ xs hkL, ratOf_can, hi, Rat.mul_assoc])
          have hi0 : (0 : Int) ≤ (i : Int) := by omega
          have HSK := Lib.hid (HCK.out k (Nat.le_of_lt hkL) HIN.out)
          clear e1 hi hkL he2 he4 he5
          by_cases hbad : m ≤ i
          · have hge : (m : Int) ≤ (i : Int) := by omega
            have HRO : RatAt wj (.agg #[.bool false, .slice none 0 0, .slice none 0 0]) ⟨false, [], []⟩ := ⟨_, _, rfl, WdsAt.nil wj, WdsAt.nil wj⟩
            obtain ⟨n5, l5, m5, g1, h1, g2, h2, w7, he, hw7, ⟨⟨t0, p0⟩, ⟨t1, q1⟩, ⟨t2, q2⟩⟩, ⟨f0, f1, f2⟩, hl6, Y, HRA, _, HKP⟩ := (HR.out.kept (HK3.out.trans HKq.out)).save HRO
            have HKN := Lib.hid (HKP.out w HKw.out (Nat.le_refl _))
            simp only [Value.agg.injEq, Array.mk.injEq, List.cons.injEq, Value.bool.injEq, Value.slice.injEq, and_true] at he
            obtain ⟨rfl, ⟨rfl, rfl, rfl⟩, rfl, rfl, rfl⟩ := he
            rw [hw7] at Y HRA HKN
            clear hw7 HKP HRO
            go_wp2
            refine bodyPost_ret (v := .tuple #[.agg #[.bool false, .slice none 0 0, .slice none 0 0], .int .i64 11]) ?_ rfl ⟨HBADj.out _ i HIL.out hbad, HKN.out⟩
            simp [results, Tryz.results35, go_sem, Y.out.1, Y.out.2.1, Y.out.2.2]
          · have hge : ¬ (m : Int) ≤ (i : Int) := by omega
            have hil : (i : Int) < (m : Int) := by omega
            have HIN2 := Lib.hid (HINS.out (by omega))
            have hkl : i < xs.length := by have := HM.out; omega
            have hx4 : (xs.getD i default).Short 4 := by
              have e : xs.getD i default = xs[i] := by simp [List.getD_eq_getElem?_getD, hkl]
              rw [e]; exact HX4.out _ (List.getElem_mem _)
            obtain ⟨b6, o6, u1, u2, rfl, hrg, hw1, hw2⟩ := HXV.out.get i hkl
            obtain ⟨a3, c3, rfl⟩ := hw1.shape
            obtain ⟨a4, c4, rfl⟩ := hw2.shape
            have hrg2 := range_same hrg HKw.out
            have y0 := hrg2 0 _ rfl
            have y1' := hrg2 1 _ rfl
            have y2' := hrg2 2 _ rfl
            rw [Nat.add_zero] at y0
            have HXR : Hid (RatAt wj (.agg #[.bool (xs.getD i default).neg, .slice a3 (xs.getD i default).num.length c3, .slice a4 (xs.getD i default).den.length c4]) (xs.getD i default)) := Lib.hid ⟨_, _, rfl, hw1.kept HKw.out, hw2.kept HKw.out⟩
            have HML : Hid (∀ W u1 u2, RatAt W u1 (canR (c * prodE L xs k)) → RatAt W u2 (xs.getD i default) → Calls Tryz.prog 61 #[u1, u2] W fun e w' => (∃ v', e = .returned v' ∧ RatAt w' v' (canR (c * prodE L xs (k + 1)))) ∧ Kept W w') := Lib.hid fun W u1 u2 k1 k2 => by
              rw [HSE.out]
              exact refmul02_any _ _ _ _ W k1 k2 ⟨Nat.le_trans HSK.out.1 (by omega), Nat.le_trans HSK.out.2 (by omega)⟩ ⟨Nat.le_trans hx4.1 (by omega), Nat.le_trans hx4.2 (by omega)⟩
            obtain ⟨z, hz⟩ : ∃ z, z = xs.getD i default := ⟨_, rfl⟩
            rw [← hz] at HML HXR y0 y1' y2'
            generalize z.neg = z0 at *
            generalize z.num.length = z1 at *
            generalize z.den.length = z2 at *
            obtain ⟨p1, p2, p3, d1, d2, d3, d4, v0, v1, v2, hlx, HXA⟩ := HX.out.read
            clear hx4 hrg hrg2 hw1 hw2 hkl hz hbad
            go_upto_region 11 with fail
            go_region_with (go_at_call 61; (with_reducible refine (HML.out _ _ _ (HXA.out.kept (Kept.refl _).drew) (HXR.out.kept (Kept.refl _).drew)).mono ?_); rintro e w7 ⟨⟨v7, rfl, hv7⟩, hk7⟩; have hkd := (Kept.refl _).drew.trans hk7; have HXI7 := Lib.hid (HXI.out.kept hkd); have hq7 := HX.out.kept hkd; have HKd := Lib.hid (HKq.out.trans hkd); have HII := Lib.hid (fun u0 u1 u2 => hq7.ints HXI7.out u0 u1 u2); obtain ⟨n8, l8, m8, a8, c8, b8, d8, w8, rfl, hw8, ⟨⟨r0, j0⟩, ⟨r1, j1⟩, ⟨r2, j2⟩⟩, ⟨f0, f1, f2⟩, hl8, _, _, HX8, HKP⟩ := hq7.save hv7; have HW8 := Lib.hid hw8; clear hv7 hk7 hkd hq7 hw8)
            all_goals
              have HKE := Lib.hid (HKP.out _ HKd.out (Nat.le_refl _))
              have HXI8 := Lib.hid (HII.out (.bool n8) (.slice a8 l8 c8) (.slice b8 m8 d8))
              rw [← HW8.out] at HXI8
              clear HKP
              go_wp2_with fail
              rw [← HW8.out]
              go_roundg (ln - (k + 1))
              case measure => omega
              case rel => exact ⟨k + 1, by omega, by go_num, Nat.le_refl _, HX8, HKE, HXI8, HIN2⟩
        · have hke : k = L.length := by have := HLN.out; omega
          have hkn : ¬ (k : Int) < (ln : Int) := by omega
          have HALL : Hid (∀ i ∈ L, i < m) := Lib.hid (by have h := HIN.out; rw [hke, List.take_length] at h; exact h)
          have HX9 : Hid (RatCell wj w3.heap.size (canR (c * prodE L xs L.length))) := Lib.hid (by rw [← hke]; exact HX.out)
          have HS9 := Lib.hid (HCK.out L.length (Nat.le_refl _) (by rw [List.take_length]; exact HALL.out))
          have HGO2 := Lib.hid (HEND.out HALL.out).2
          have HAD : Hid (∀ W u1 u2, RatAt W u1 (canR (evQ xs (p.take j))) → RatAt W u2 (canR (c * prodE L xs L.length)) → Calls Tryz.prog 77 #[u1, u2] W fun e w' => (∃ v', e = .returned v' ∧ RatAt w' v' (canR (evQ xs (p.take (j + 1))))) ∧ Kept W w') := Lib.hid fun W u1 u2 k1 k2 => by
            have h := refadd02_any u1 u2 _ _ W k1 k2 HSJ.out ⟨Nat.le_trans HS9.out.1 (by omega), Nat.le_trans HS9.out.2 (by omega)⟩
            rw [ratOf_can, ratOf_can, (HEND.out HALL.out).1, ← HST.out] at h
            exact h
          clear hke
          have HK39 := Lib.hid (HK3.out.trans HKq.out)
          obtain ⟨p1, p2, p3, e1, e2, e3, e4, v0, v1, v2, hlx, HXA⟩ := (HC.out.kept HK39.out).read
          obtain ⟨p4, p5, p6, e5, e6, e7, e8, v3, v4, v5, hly, HXB⟩ := HX9.out.read
          go_wp2_with fail
          refine (HAD.out _ _ _ HXA.out HXB.out).mono ?_
          rintro e wa ⟨⟨va, rfl, hva⟩, hka⟩
          have HK4 := Lib.hid (HK39.out.trans hka)
          clear v0 v1 v2 hlx v3 v4 v5 hly HXA HXB
          obtain ⟨n5, l5, m5, g1, h1, g2, h2, wb, rfl, hwb, ⟨⟨t0, p0⟩, ⟨t1, q1⟩, ⟨t2, q2⟩⟩, ⟨f0, f1, f2⟩, hl6, _, _, HSN, HKP⟩ := (HC.out.kept HK4.out).save hva
          have HKN := Lib.hid (HKP.out w (HKr.out.trans HK4.out) (Nat.le_of_lt HZ1.out))
          have HRN := Lib.hid ((HR.out.kept HK4.out).apart (w' := wb) (Nat.ne_of_lt HZ1.out) (HC.out.kept HK4.out) (by rw [hwb]; exact (((OnlyAt.refl _ _).store 0 _).store 1 _).store 2 _))
          rw [hwb] at HSN HKN HRN
          clear hva hka hwb HKP
          go_wp2_with fail
          go_roundg (n - (j + 1))
          case measure => omega
          case rel => exact ⟨j + 1, by omega, by go_num, Nat.le_refl _, HSN, HRN, HKN, HGO2⟩
    · have hjn : ¬ (j : Int) < (n : Int) := by omega
      have hje : j = p.length := by have := HN.out; omega
      have HCE : Hid (RatCell wi (w.heap.size + 1) (canR (evQ xs p))) := Lib.hid (by have h := HC.out; rw [hje, List.take_length] at h; exact h)
      have HGA : Hid (∀ t ∈ p, gtK t.1 < (m : Int)) := Lib.hid (by have h := HGO.out; rw [hje, List.take_length] at h; exact h)
      clear hje
      obtain ⟨p1, p2, p3, b1, d1, b2, d2, v0, v1, v2, hlv, HRO⟩ := HCE.out.read
      obtain ⟨n5, l5, m5, g1, h1, g2, h2, w5, he, hw5, ⟨⟨t0, p0⟩, ⟨t1, q1⟩, ⟨t2, q2⟩⟩, ⟨f0, f1, f2⟩, hl6, Y, HRA, _, HKP⟩ := HR.out.save HRO.out
      have HKN := Lib.hid (HKP.out w HKr.out (Nat.le_refl _))
      simp only [Value.agg.injEq, Array.mk.injEq, List.cons.injEq, Value.bool.injEq, Value.slice.injEq, and_true] at he
      obtain ⟨rfl, ⟨rfl, rfl, rfl⟩, rfl, rfl, rfl⟩ := he
      rw [hw5] at Y HRA HKN
      clear hw5 HKP
      go_wp2
      refine bodyPost_ret (v := .tuple #[.agg #[.bool p1, .slice b1 p2 d1, .slice b2 p3 d2], .int .i64 0]) ?_ rfl ⟨HGOOD.out _ _ HGA.out HRA.out, HKN.out⟩
      simp [results, Tryz.results35, go_sem, Y.out.1, Y.out.2.1, Y.out.2.2]
end Go.Proofs.YtpaedhlacbpmpaaGreatDoor
