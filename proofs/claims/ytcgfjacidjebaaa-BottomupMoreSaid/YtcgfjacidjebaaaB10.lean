/-
  Walks: family.Product.
-/
import Derived.Test.YtcgfjacidjebaaaB9
namespace Go.Proofs.Ytcgfjacidjebaaa
open Go.RowKit Go.Maps

theorem BoolMap.ne {w : World} {b n : Nat} {mem : Int → Bool} (h : BoolMap w b n mem) {B : Nat} {e : TypeId} {size m : Nat} {v : Value} {xs : List Value} (ho : w.ownsRow B e size v m xs) : some b ≠ v.ownBlock := by
  obtain ⟨D, ⟨es, cl, h1, _⟩, _⟩ := h
  obtain ⟨_, ⟨rfl, _⟩ | ⟨g, cap, cur, rfl, _, hh, _⟩⟩ := ho
  · intro h; cases h
  · intro h
    cases h
    rw [hh] at h1; cases h1
theorem own_ne {w w' : World} {B : Nat} {v : Value} {xs : List Int} {b : Nat} (h : OwnInts w B v xs) (hg : w.grownBy w' (some b)) (hne : some b ≠ v.ownBlock) : OwnInts w' B v xs := by
  obtain ⟨⟨h1, h2⟩, h3⟩ := h
  refine ⟨⟨h1, h2.imp id ?_⟩, h3⟩
  rintro ⟨g, cap, cur, rfl, h5, h6, h7⟩
  exact ⟨g, cap, cur, rfl, h5, (hg.block g (heap_lt h6) (fun e => hne e.symm)).trans h6, h7⟩
theorem kept_ne {w0 w w' : World} {b : Nat} (h : Kept w0 w) (hg : w.grownBy w' (some b)) (hb : w0.heap.size ≤ b) : Kept w0 w' :=
  h.app ⟨hg.os, hg.tape, hg.output, hg.size, fun k hk => hg.block k (Nat.lt_of_lt_of_le hk h.size) (by intro e; cases e; omega)⟩

theorem mem_ofN (u : Nat) (l : List Nat) : (u : Int) ∈ ofN l ↔ u ∈ l := by
  simp only [ofN, List.mem_map]
  constructor
  · rintro ⟨x, hx, e⟩; have : x = u := by omega
    rw [← this]; exact hx
  · intro h; exact ⟨u, h, rfl⟩
/-- What the two loops keep. -/
def ProdInv (wm wr : World) (v : Value) (acc : List Nat) : Prop :=
  OwnInts wr wm.heap.size v (ofN acc) ∧ BoolMap wr wm.heap.size acc.length (fun z => decide (z ∈ ofN acc)) ∧ Kept wm wr
theorem prod_hit {wm wr : World} {v : Value} {acc : List Nat} (h : ProdInv wm wr v acc) {u : Nat} (hu : u ∈ acc) : ProdInv wm wr v (addU acc u) := by
  unfold addU; rw [if_pos hu]; exact h
theorem prod_new {wm wr w1 w2 w3 : World} {v v' : Value} {acc : List Nat} {u : Nat} (h : ProdInv wm wr v acc) (hu : u ∉ acc)
    (h1 : BoolMap w1 wm.heap.size (acc.length + 1) (fun y => if y = (u : Int) then true else decide (y ∈ ofN acc))) (hg1 : wr.grownBy w1 (some wm.heap.size))
    (h2 : w2 = w1.alloc (.cells #[.int .i64 u] 3)) (h3 : OwnInts w3 wm.heap.size v' (ofN acc ++ [(u : Int)])) (hg3 : w2.grownBy w3 v.ownBlock) (hb3 : Below wm.heap.size w2 w3) : ProdInv wm w3 v' (addU acc u) := by
  unfold addU; rw [if_neg hu]
  subst h2
  have hlt := h1.lt
  refine ⟨by simpa using h3, ?_, ?_⟩
  · have hb1 : (w1.alloc (.cells #[.int .i64 u] 3)).heap[wm.heap.size]? = w1.heap[wm.heap.size]? := Below.heap_alloc _ _ _ hlt
    have hb2 := hg3.block wm.heap.size (by simp; omega) (h.2.1.ne h.1.1)
    have h4 := h1.kept (hb2.trans hb1)
    have e : (fun y : Int => if y = (u : Int) then true else decide (y ∈ ofN acc)) = fun z => decide (z ∈ ofN (acc ++ [u])) := by
      funext y
      by_cases hy : y = (u : Int)
      · subst hy; simp
      · rw [if_neg hy]
        congr 1
        simp only [List.map_append, List.mem_append, List.map_cons, List.map_nil, List.mem_singleton, hy, or_false]
    rw [e] at h4
    simpa using h4
  · exact ((kept_ne h.2.2 hg1 (Nat.le_refl _)).alloc _).app hb3

def productK (a b : List Nat) : Option (List Nat) := if a.length ≤ 1024 ∧ b.length ≤ 1024 then (if (minK (allU (minK a) (minK b))).length ≤ 1024 then some (minK (allU (minK a) (minK b))) else none) else none
theorem allU_mk {xs ys : List Nat} (hx : ∀ n ∈ xs, Mk n) (hy : ∀ n ∈ ys, Mk n) : ∀ n ∈ allU xs ys, Mk n := by
  intro n hn
  obtain ⟨x, h1, y, h2, rfl⟩ := (mem_allU xs ys n).1 hn
  exact or_mk (hx x h1) (hy y h2)

set_option maxHeartbeats 4000000 in
theorem product_any (a b : List Nat) (va vb : Value) (w : World) (ha : SetsAt w va a) (hb : SetsAt w vb b) :
    Calls Try.prog 44 #[va, vb] w fun e w' => LRes w' w.heap.size e (productK a b) ∧ Kept w w' := by
  obtain ⟨aa, na, ca, rfl⟩ := ha.1.shape
  obtain ⟨ab, nb, cb, rfl⟩ := hb.1.shape
  have H1 := Lib.hid (fun w' (hk : Kept w w') => lists2 a b _ _ w' (ha.kept hk) (hb.kept hk))
  have HA := Lib.hid ha
  have HB := Lib.hid hb
  clear ha hb
  unfold productK
  by_cases h : a.length ≤ 1024 ∧ b.length ≤ 1024
  · have E0 := Lib.hid (show errV (if a.length ≤ 1024 ∧ b.length ≤ 1024 then 0 else 4) = .nilIface by rw [if_pos h]; rfl)
    rw [if_pos h]
    have hla := len_minK a
    have hlb := len_minK b
    have hal : a.length ≤ 8796093022208 := by omega
    have hbl : b.length ≤ 8796093022208 := by omega
    have HAL := Lib.hid hal
    have HBL := Lib.hid hbl
    obtain ⟨n, hn⟩ : ∃ n, n = (minK a).length := ⟨_, rfl⟩
    obtain ⟨m, hm⟩ : ∃ m, m = (minK b).length := ⟨_, rfl⟩
    have hn9 : n ≤ 1024 := by omega
    have hm9 : m ≤ 1024 := by omega
    have HN := Lib.hid hn
    have HM := Lib.hid hm
    have HMA := Lib.hid (minK_mk HA.out.2)
    have HMB := Lib.hid (minK_mk HB.out.2)
    obtain ⟨A, hA⟩ : ∃ A, A = minK a := ⟨_, rfl⟩
    obtain ⟨Bs, hB⟩ : ∃ A, A = minK b := ⟨_, rfl⟩
    rw [← hA] at HN HMA ⊢
    rw [← hB] at HM HMB ⊢
    have HAe := Lib.hid hA
    have HBe := Lib.hid hB
    clear h hla hlb hal hbl hn hm hA hB
    go_enter Try.func44, Try.ntmps44
    have hmm := @run_makeMap Try.prog
    go_wp2_with (first
      | (go_at_call 60; refine (H1.out _ (Kept.refl _)).mono ?_; rintro e w1 ⟨rfl, hk1⟩; rw [E0.out]; have tok1 : True := trivial)
      | (go_at_call 62; clear tok1; refine (minimalS_any _ a _ (HA.out.kept hk1) HAL.out).mono ?_; rintro e w2 ⟨v2, rfl, ho2, hk2⟩; have O2 := Lib.hid ho2; clear ho2)
      | (go_at_call 62; refine (minimalS_any _ b _ (HB.out.kept (hk1.trans hk2)) HBL.out).mono ?_; rintro e w3 ⟨v3, rfl, ho3, hk3⟩; have O3 := Lib.hid ho3; clear ho3; rw [← HAe.out] at O2; rw [← HBe.out] at O3; obtain ⟨a2, c2, rfl, _, _, hc2⟩ := O2.out.1.ints; obtain ⟨a3, c3, rfl, _, _, hc3⟩ := O3.out.1.ints; have C2 := Lib.hid hc2; have C3 := Lib.hid hc3; clear hc2 hc3 O2 O3; rw [show (ofN A).length = n by rw [HN.out]; simp, show (ofN Bs).length = m by rw [HM.out]; simp]))
    have hK03 := (hk1.trans hk2).trans hk3
    go_loopw [8, 10, 12, 13, 28, 34] (fun v _ _ _ i _ wr => ∃ k : Nat, k ≤ n ∧ i = .int .i64 k ∧ ProdInv w3 wr v ((A.take k).foldl (fun out x => rowU x Bs out) [])) (fun _ _ _ _ i _ _ => n - (intOf i).toNat)
    case atStart => exact ⟨0, Nat.zero_le _, rfl, OwnInts.nil _ _, by simpa using BoolMap.made w3, (Kept.refl _).alloc _⟩
    case round =>
      obtain ⟨k, hk, rfl, hinv⟩ := hrel
      by_cases hlt : k < n
      · have hkx : k < A.length := by have := HN.out; omega
        obtain ⟨b2, o2, rfl, hc0⟩ := C2.out k (by simpa using hkx)
        have hcell := (hk3.trans hinv.2.2).cell hc0
        obtain ⟨x, hx⟩ : ∃ x, x = A[k] := ⟨_, rfl⟩
        have hxm : Mk x := HMA.out x (by rw [hx]; exact List.getElem_mem _)
        simp only [List.getElem_map] at hcell
        rw [← hx] at hcell
        have hstep : (A.take (k + 1)).foldl (fun out x => rowU x Bs out) [] = rowU x Bs ((A.take k).foldl (fun out x => rowU x Bs out) []) := by
          rw [List.take_succ_eq_append_getElem hkx, List.foldl_append, ← hx]; rfl
        have hlen := len_allU_acc Bs (A.take k) []
        obtain ⟨acc, hacc⟩ : ∃ acc, acc = (A.take k).foldl (fun out x => rowU x Bs out) [] := ⟨_, rfl⟩
        rw [← hacc] at hinv hstep hlen
        have hal : acc.length ≤ 1048576 := by
          have h1 : (A.take k).length ≤ 1024 := by simp; omega
          have h2 : Bs.length ≤ 1024 := by have := HM.out; omega
          have h3 := Nat.mul_le_mul h1 h2
          simp at hlen h3; omega
        have HST := Lib.hid hstep
        have HXM := Lib.hid hxm
        have HI := Lib.hid hinv
        have HAL9 := Lib.hid hal
        clear hstep hxm hinv hx hacc hlen hal hc0
        go_wp2
        obtain ⟨wo, hwo⟩ : ∃ wo : World, wo = wr := ⟨_, rfl⟩
        rw [← hwo] at HI hcell
        clear hcell
        go_loopw [8, 12, 13, 34] (fun v _ _ j wi => ∃ q : Nat, q ≤ m ∧ j = .int .i64 q ∧ ProdInv w3 wi v (rowU x (Bs.take q) acc)) (fun _ _ _ j _ => m - (intOf j).toNat)
        case atStart => exact ⟨0, Nat.zero_le _, rfl, by rw [← hwo]; exact HI.out⟩
        case round =>
          obtain ⟨q, hq, rfl, hinv⟩ := hrel
          by_cases hqm : q < m
          · have hqx : q < Bs.length := by have := HM.out; omega
            obtain ⟨b3, o3, rfl, hc0⟩ := C3.out q (by simpa using hqx)
            have hcell := hinv.2.2.cell hc0
            obtain ⟨y, hy⟩ : ∃ y, y = Bs[q] := ⟨_, rfl⟩
            have hym : Mk y := HMB.out y (by rw [hy]; exact List.getElem_mem _)
            simp only [List.getElem_map] at hcell
            rw [← hy] at hcell
            have hstep : rowU x (Bs.take (q + 1)) acc = addU (rowU x (Bs.take q) acc) (x ||| y) := by
              unfold rowU
              rw [List.take_succ_eq_append_getElem hqx, List.foldl_append, ← hy]; rfl
            have hlen := len_rowU x (Bs.take q) acc
            have hbit := or_int HXM.out hym
            have hmk := or_mk HXM.out hym
            obtain ⟨u, hu⟩ : ∃ u, u = x ||| y := ⟨_, rfl⟩
            rw [← hu] at hstep hbit hmk
            obtain ⟨ac2, hac2⟩ : ∃ ac, ac = rowU x (Bs.take q) acc := ⟨_, rfl⟩
            rw [← hac2] at hinv hstep hlen
            have hal : ac2.length ≤ 2097152 := by have := HAL9.out; simp at hlen; omega
            have hsz := hinv.2.2.size
            have HST2 := Lib.hid hstep
            have HUM := Lib.hid hmk
            have HI2 := Lib.hid hinv
            clear hstep hym hinv hy hac2 hlen hc0 hu hmk
            by_cases hin : u ∈ ac2
            · have hdec : decide ((u : Int) ∈ ofN ac2) = true := decide_eq_true ((mem_ofN u ac2).2 hin)
              have HD := Lib.hid hdec
              have HIN := Lib.hid hin
              clear hdec hin
              go_wp2_with (at_lookup; refine look_bool 101 Try.underlying101 rfl _ _ rfl w3.heap.size _ _ rfl HI2.out.2.1 (u : Int) rfl (wf_mk HUM.out) ?_; rw [HD.out])
              go_roundw
              case rel => exact ⟨q + 1, by omega, by go_num, by rw [HST2.out]; exact prod_hit HI2.out HIN.out⟩
              case measure => simp [intOf]; omega
            · have hdec : decide ((u : Int) ∈ ofN ac2) = false := decide_eq_false fun h => hin ((mem_ofN u ac2).1 h)
              have HD := Lib.hid hdec
              have HIN := Lib.hid hin
              clear hdec hin
              go_wp2_with (first
                | (at_lookup; refine look_bool 101 Try.underlying101 rfl _ _ rfl w3.heap.size _ _ rfl HI2.out.2.1 (u : Int) rfl (wf_mk HUM.out) ?_; rw [HD.out])
                | (at_mapUpdate; refine store_bool 101 Try.underlying101 rfl _ _ _ rfl w3.heap.size _ _ rfl HI2.out.2.1 (by unfold maxLen; omega) (u : Int) rfl (wf_mk HUM.out) true rfl ?_; intro w5 hm5 hg5; have ho5 := own_ne HI2.out.1 hg5 (HI2.out.2.1.ne HI2.out.1.1); have hs5 := hg5.size; have HM5 := Lib.hid hm5; have HO5 := Lib.hid ho5; clear hm5 ho5)
                | (at_builtin; refine app_int rfl _ _ rfl w3.heap.size _ (ofN ac2) rfl (HO5.out.kept ((Kept.refl _).alloc _)) _ (u : Int) rfl (by simp) (by simp; omega) (by simp; omega) ?_; intro v' w6 hown6 hg6 hb6))
              go_roundw
              case rel => exact ⟨q + 1, by omega, by go_num, by rw [HST2.out]; exact prod_new HI2.out HIN.out HM5.out hg5 rfl hown6 hg6 hb6⟩
              case measure => simp [intOf]; omega
          · have e : q = m := by omega
            have hfin : rowU x (Bs.take q) acc = (A.take (k + 1)).foldl (fun out x => rowU x Bs out) [] := by
              rw [HST.out, e, List.take_of_length_le (by have := HM.out; omega)]
            rw [hfin] at hinv
            have HI3 := Lib.hid hinv
            clear hinv hfin e
            go_wp2
            go_roundw
            case rel => exact ⟨k + 1, by omega, by go_num, HI3.out⟩
            case measure => simp [intOf]; omega
      · have e : k = n := by omega
        have hfin : (A.take k).foldl (fun out x => rowU x Bs out) [] = allU A Bs := by
          rw [e, List.take_of_length_le (by have := HN.out; omega)]; rfl
        rw [hfin] at hinv
        have hlen := len_allU_acc Bs A []
        have hal : (allU A Bs).length ≤ 8796093022208 := by
          have h1 : A.length ≤ 1024 := by have := HN.out; omega
          have h2 : Bs.length ≤ 1024 := by have := HM.out; omega
          have h3 := Nat.mul_le_mul h1 h2
          unfold allU
          simp at hlen h3; omega
        have hset : SetsAt wr u8 (allU A Bs) := ⟨hinv.1.ints, allU_mk HMA.out HMB.out⟩
        have hmin := minimalS_any _ _ _ hset hal
        have HS := Lib.hid hmin
        have hK := hK03.trans hinv.2.2
        clear hmin hset hlen hal hfin hinv e
        by_cases hm : (minK (allU A Bs)).length ≤ 1024
        · have HMn := Lib.hid (show (ofN (minK (allU A Bs))).length ≤ 1024 by simpa using hm)
          have HMo := Lib.hid hm
          clear hm
          go_wp2_with (first
            | (go_at_call 62; refine HS.out.mono ?_; rintro e w4 ⟨v4, rfl, ho4, hk4⟩; have O4 := Lib.hid ho4; clear ho4)
            | (go_at_call 77; refine (sized_ok v4 _ w4 O4.out.1.ints HMn.out).mono ?_; rintro e w5 ⟨rfl, rfl⟩))
          go_ret2
          try rw [if_pos HMo.out]
          exact ⟨⟨_, rfl, O4.out.mono hK.size⟩, hK.trans hk4⟩
        · have HMn := Lib.hid (show ¬ (ofN (minK (allU A Bs))).length ≤ 1024 by simpa using hm)
          have HMo := Lib.hid hm
          clear hm
          go_wp2_with (first
            | (go_at_call 62; refine HS.out.mono ?_; rintro e w4 ⟨v4, rfl, ho4, hk4⟩; have O4 := Lib.hid ho4; clear ho4)
            | (go_at_call 77; refine (sized_large v4 _ w4 O4.out.1.ints HMn.out).mono ?_; rintro e w5 ⟨rfl, rfl⟩))
          go_ret2
          try rw [if_neg HMo.out]
          exact ⟨rfl, hK.trans hk4⟩
  · have E0 := Lib.hid (show errV (if a.length ≤ 1024 ∧ b.length ≤ 1024 then 0 else 4) = .iface 45 (.int .i64 4) by rw [if_neg h]; rfl)
    rw [if_neg h]
    clear h
    go_enter Try.func44, Try.ntmps44
    go_wp2_with (go_at_call 60; refine (H1.out _ (Kept.refl _)).mono ?_; rintro e w1 ⟨rfl, hk1⟩; rw [E0.out])
    go_ret2
    exact ⟨rfl, hk1⟩
end Go.Proofs.Ytcgfjacidjebaaa
