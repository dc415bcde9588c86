import Derived.Test.YtngbjdaaogbjmaaGreatK5
/-
  Walks: faultlineref06.Error, Both, part, Least, limited.
-/
namespace Go.Proofs.YtngbjdaaogbjmaaGreat
open Go.RowKit

theorem SetsAt.cell {w : World} {a : Option Addr} {c m : Nat} {ns : List Nat} (h : SetsAt w (.slice a m c) ns) (i : Nat) (hi : i < ns.length) : ∃ b o, a = some ⟨b, o, none⟩ ∧ w.cell? ⟨b, o + i, none⟩ = some (.int .i64 (ns[i] : Nat)) := by
  obtain ⟨⟨a', c', h1, _, _, h3⟩, _⟩ := h
  cases h1
  obtain ⟨b, o, h4, h5⟩ := h3 i (by simpa using hi)
  exact ⟨b, o, h4, by simpa using h5⟩
theorem rerr_ok (ns : List Nat) (v : Value) (w : World) (hv : SetsAt w v ns) (hl : ns.length ≤ 1024) : Calls Tryz.prog 116 #[v] w fun e w' => e = .returned (.int .i64 0) ∧ w = w' := by
  have HV := Lib.hid hv
  obtain ⟨a, c, rfl, hc, _⟩ := hv.shape
  obtain ⟨n, hn⟩ : ∃ n, n = ns.length := ⟨_, rfl⟩
  rw [← hn] at hl hc ⊢
  have HN := Lib.hid hn
  clear hv hn
  go_enter Tryz.func116, Tryz.ntmps116
  go_wp2
  go_loop [4, 10] (fun _ i => ∃ k : Nat, k ≤ n ∧ i = .int .i64 k) (fun _ i => n - (intOf i).toNat)
  case atStart => exact ⟨0, Nat.zero_le _, rfl⟩
  case round =>
    obtain ⟨k, hk, rfl⟩ := hrel
    by_cases hlt : k < n
    · obtain ⟨b, o, rfl, hcell⟩ := HV.out.cell k (by have := HN.out; omega)
      have hmk := HV.out.2 (ns[k]'(by have := HN.out; omega)) (List.getElem_mem _)
      generalize ns[k]'(by have := HN.out; omega) = z at hcell hmk
      have HVA : Hid (∀ W, Calls Tryz.prog 175 #[.int .i64 z] W fun e w' => e = .returned (.bool true) ∧ W = w') := Lib.hid fun W => by
        have := rvalid_any (z : Int) W
        rw [decide_eq_true (by unfold Mk at hmk; omega)] at this
        exact this
      clear hmk
      go_wp2_with (go_at_call 175; refine (HVA.out _).mono ?_; rintro e w' ⟨rfl, rfl⟩)
      go_round
      case rel => exact ⟨k + 1, by omega, by go_num⟩
      case measure => simp [intOf]; omega
    · go_wp2
      go_ret
      exact ⟨rfl, rfl⟩
theorem rerr_large (ns : List Nat) (v : Value) (w : World) (hv : SetsAt w v ns) (hl : ¬ ns.length ≤ 1024) : Calls Tryz.prog 116 #[v] w fun e w' => e = .returned (.int .i64 4) ∧ w = w' := by
  obtain ⟨a, c, rfl, hc, _⟩ := hv.shape
  have h1 : ¬ (ns.length : Int) ≤ 1024 := by omega
  clear hv
  go_enter Tryz.func116, Tryz.ntmps116
  go_wp2
  go_ret
  exact ⟨rfl, rfl⟩
theorem and_sub (a b : Nat) : (a &&& b = a) ↔ subN a b = true := by
  rw [subN_iff]
  constructor
  · intro h i hi
    have h1 : (a &&& b).testBit i = true := by rw [h]; exact hi
    simp at h1
    exact h1.2
  · intro h
    apply Nat.eq_of_testBit_eq
    intro i
    simp only [Nat.testBit_and]
    cases ha : a.testBit i with
    | false => simp
    | true => simp [h i ha]
def partN (a b : Nat) : Bool := decide (a ≠ b) && subN a b
theorem part_any {a b : Nat} (ha : Mk a) (hb : Mk b) (w : World) : Calls Tryz.prog 146 #[.int .i64 a, .int .i64 b] w fun e w' => e = .returned (.bool (partN a b)) ∧ w = w' := by
  have hand : bits .and .i64 (a : Int) (b : Int) = ((a &&& b : Nat) : Int) := and_i64 a b (by unfold Mk at ha; omega) (by unfold Mk at hb; omega)
  clear ha hb
  by_cases e : a = b
  · have h1 : partN a b = false := by unfold partN; simp [e]
    rw [h1]
    have ee : ((a : Int) == (b : Int)) = true := by simp; omega
    have ee2 : ((a : Int) != (b : Int)) = false := by simp; omega
    clear e h1
    go_enter Tryz.func146, Tryz.ntmps146
    go_wp2
    go_ret
    exact ⟨rfl, rfl⟩
  · have h1 : partN a b = subN a b := by unfold partN; simp [e]
    rw [h1]
    have ee : ((a : Int) == (b : Int)) = false := by simp; omega
    have ee2 : ((a : Int) != (b : Int)) = true := by simp; omega
    clear e h1
    cases hs : subN a b with
    | true =>
      have h2 : (((a &&& b : Nat) : Int) == (a : Int)) = true := by have := (and_sub a b).2 hs; simp; omega
      clear hs
      generalize (a &&& b : Nat) = z at hand h2
      go_enter Tryz.func146, Tryz.ntmps146
      go_wp2
      go_ret
      exact ⟨rfl, rfl⟩
    | false =>
      have h2 : (((a &&& b : Nat) : Int) == (a : Int)) = false := by
        have : ¬ (a &&& b = a) := fun h => by rw [(and_sub a b).1 h] at hs; cases hs
        simp; omega
      clear hs
      generalize (a &&& b : Nat) = z at hand h2
      go_enter Tryz.func146, Tryz.ntmps146
      go_wp2
      go_ret
      exact ⟨rfl, rfl⟩
theorem keep_part (ns : List Nat) (hs : ns.Pairwise ltK) (k : Nat) (hk : k < ns.length) : ((ns.take k).foldl keepN []).any (fun x => partN x ns[k]) = ((ns.take k).foldl keepN []).any (fun x => subN x ns[k]) := by
  rw [Bool.eq_iff_iff, List.any_eq_true, List.any_eq_true]
  have hne : ∀ x ∈ (ns.take k).foldl keepN [], x ≠ ns[k] := by
    intro x hx e
    rcases mem_minN _ _ _ hx with h | h
    · cases h
    · obtain ⟨i, hi, rfl⟩ := List.getElem_of_mem h
      simp only [List.length_take] at hi
      rw [List.getElem_take] at e
      have := List.pairwise_iff_getElem.1 hs i k (by omega) hk (by omega)
      rw [e] at this
      exact ltK_irr _ this
  constructor
  · rintro ⟨x, hx, h⟩
    refine ⟨x, hx, ?_⟩
    unfold partN at h; simp at h; exact h.2
  · rintro ⟨x, hx, h⟩
    refine ⟨x, hx, ?_⟩
    unfold partN; simp [hne x hx, h]
set_option maxRecDepth 100000 in
set_option maxHeartbeats 4000000 in
theorem least_own (ns : List Nat) (v : Value) (w : World) (hv : SetsAt w v ns) (hl : ns.length ≤ 8796093022208) :
    Calls Tryz.prog 87 #[v] w fun e w' => (∃ v', e = .returned v' ∧ OwnSets w' w.heap.size v' (minK ns)) ∧ Kept w w' := by
  have HS := Lib.hid (rsort_any ns.length ns v w (Nat.le_refl _) hv hl)
  obtain ⟨a, c, rfl, hc, _⟩ := hv.shape
  obtain ⟨ss, hss⟩ : ∃ ss, ss = sortK ns := ⟨_, rfl⟩
  have hps : ss.Pairwise ltK := by rw [hss]; exact pair_sortK ns
  have hsl : ss.length ≤ ns.length := by rw [hss]; exact len_sortK ns
  have hmin : minK ns = ss.foldl keepN [] := by rw [hss]; rfl
  have hmk : ∀ n ∈ ss, Mk n := by rw [hss]; exact fun n hn => hv.2 n ((mem_sortK ns n).1 hn)
  rw [← hss] at HS
  rw [hmin]
  have HM := Lib.hid hmk
  have HP := Lib.hid hps
  clear hss hmin hmk hps hv
  go_enter Tryz.func87, Tryz.ntmps87
  go_wp2_with fail
  refine HS.out.mono ?_
  rintro e w1 ⟨⟨v1, rfl, ho1⟩, hk1⟩
  have HV := Lib.hid ho1.sets
  have HK1 := Lib.hid hk1
  obtain ⟨b1, c1, rfl, hc1, _⟩ := ho1.sets.shape
  obtain ⟨n, hn⟩ : ∃ n, n = ss.length := ⟨_, rfl⟩
  rw [← hn] at HV hc1 hsl ⊢
  have HN := Lib.hid hn
  clear ho1 hk1 hn HS
  go_wp2_with fail
  go_loopw [3, 5, 6, 8, 12, 16, 17, 18] (fun vo _ _ _ i _ _ _ wr => ∃ (k : Nat), k ≤ n ∧ i = .int .i64 k ∧ OwnInts wr w1.heap.size vo (ofN ((ss.take k).foldl keepN [])) ∧ Kept w1 wr) (fun _ _ _ _ i _ _ _ _ => n - (intOf i).toNat)
  case atStart => exact ⟨0, Nat.zero_le _, rfl, OwnInts.nil _ _, Kept.refl _⟩
  case round =>
    obtain ⟨k, hk, rfl, hO, hKr⟩ := hrel
    have HO := Lib.hid hO
    have HKr := Lib.hid hKr
    have hsz := hKr.size
    clear hO hKr
    by_cases hlt : k < n
    · have hkx : k < ss.length := by have := HN.out; omega
      obtain ⟨b, o, rfl, hcell0⟩ := HV.out.cell k hkx
      have hcell := HKr.out.cell hcell0
      have hkp := keep_part ss HP.out k hkx
      have hms := HM.out _ (List.getElem_mem hkx)
      have htk : (ss.take (k + 1)).foldl keepN [] = keepN ((ss.take k).foldl keepN []) ss[k] := by rw [List.take_succ_eq_append_getElem hkx, List.foldl_append]; rfl
      have hma : ∀ x ∈ (ss.take k).foldl keepN [], Mk x := fun x hx => by
        rcases mem_minN _ _ _ hx with h | h
        · cases h
        · exact HM.out x (List.mem_of_mem_take h)
      have hla : ((ss.take k).foldl keepN []).length ≤ k := by
        have := len_minN (ss.take k) []
        simp at this
        omega
      obtain ⟨s, hs⟩ : ∃ s, s = ss[k] := ⟨_, rfl⟩
      rw [← hs] at hcell hkp hms htk
      obtain ⟨acc, hacc⟩ : ∃ x, x = (ss.take k).foldl keepN [] := ⟨_, rfl⟩
      rw [← hacc] at HO hkp htk hma hla
      have HKP := Lib.hid hkp
      have HTK := Lib.hid htk
      have HMA := Lib.hid hma
      have HMS := Lib.hid hms
      have ho3 := OwnInts.ints HO.out
      obtain ⟨ao, no, co, rfl⟩ := ho3.shape
      have hal : no = acc.length := by obtain ⟨_, _, h, _⟩ := ho3; cases h; simp
      subst hal
      have HSO : Hid (SetsAt wr (.slice ao acc.length co) acc) := Lib.hid ⟨ho3, HMA.out⟩
      obtain ⟨m, hm⟩ : ∃ m, m = acc.length := ⟨_, rfl⟩
      rw [← hm] at HSO HO hla ⊢
      have HML := Lib.hid hm
      clear hcell0 hkp htk hma hms hs hacc ho3 hm
      go_wp2_with fail
      obtain ⟨wo, rfl⟩ : ∃ wo : World, wo = wr := ⟨_, rfl⟩
      go_loop [6, 8, 18] (fun sm _ j => ∃ q : Nat, q ≤ m ∧ j = .int .i64 q ∧ sm = .bool (!((acc.take q).any fun x => partN x s))) (fun _ _ j => m - (intOf j).toNat)
      case atStart => exact ⟨0, Nat.zero_le _, rfl, rfl⟩
      case round =>
        obtain ⟨q, hq, rfl, rfl⟩ := hrel
        by_cases hqm : q < m
        · have hqx : q < acc.length := by have := HML.out; omega
          obtain ⟨b2, o2, rfl, hcell2⟩ := HSO.out.cell q hqx
          have hmx := HMA.out _ (List.getElem_mem hqx)
          have hst : (acc.take (q + 1)).any (fun x => partN x s) = ((acc.take q).any (fun x => partN x s) || partN acc[q] s) := by
            rw [List.take_succ_eq_append_getElem hqx, List.any_append]; simp
          obtain ⟨x, hx⟩ : ∃ x, x = acc[q] := ⟨_, rfl⟩
          rw [← hx] at hcell2 hmx hst
          have HP2 : Hid (∀ W, Calls Tryz.prog 146 #[.int .i64 x, .int .i64 s] W fun e w' => e = .returned (.bool (partN x s)) ∧ W = w') := Lib.hid fun W => part_any hmx HMS.out W
          have HST := Lib.hid hst
          clear hx hmx hst
          cases hb1 : (acc.take q).any fun x => partN x s with
          | true =>
            have HB1 := Lib.hid hb1
            clear hb1
            go_wp2_with (go_at_call 146; refine (HP2.out _).mono ?_; rintro e w' ⟨rfl, rfl⟩)
            go_round
            case rel => exact ⟨q + 1, by omega, by go_num, by rw [HST.out, HB1.out]; rfl⟩
            case measure => simp [intOf]; omega
          | false =>
            have HB1 := Lib.hid hb1
            clear hb1
            go_wp2_with (go_at_call 146; refine (HP2.out _).mono ?_; rintro e w' ⟨rfl, rfl⟩)
            go_round
            case rel => exact ⟨q + 1, by omega, by go_num, by rw [HST.out, HB1.out]; rfl⟩
            case measure => simp [intOf]; omega
        · have hqe : acc.take q = acc := List.take_of_length_le (by have := HML.out; omega)
          rw [hqe, HKP.out]
          cases hb1 : acc.any fun x => subN x s with
          | true =>
            have HKN : Hid ((ss.take (k + 1)).foldl keepN [] = acc) := Lib.hid (by rw [HTK.out, keepN, if_pos hb1])
            clear hb1 hqe
            go_wp2
            go_roundw
            case rel => exact ⟨k + 1, by omega, by go_num, by rw [HKN.out]; exact HO.out, HKr.out⟩
            case measure => simp [intOf]; omega
          | false =>
            have HKN : Hid ((ss.take (k + 1)).foldl keepN [] = acc ++ [s]) := Lib.hid (by rw [HTK.out, keepN, if_neg (by rw [hb1]; simp)])
            clear hb1 hqe
            go_wp2_with (at_builtin; refine app_int rfl _ _ rfl w1.heap.size _ (ofN acc) rfl (HO.out.kept ((Kept.refl _).alloc _)) _ (s : Int) rfl (by simp) (by simp; have := HML.out; omega) (by simp; omega) ?_; intro v7 w7 hown7 _ hb7; have O7 := Lib.hid hown7; have HB7 := Lib.hid hb7; clear hown7 hb7)
            go_roundw
            case rel => exact ⟨k + 1, by omega, by go_num, by rw [HKN.out]; simpa [ofN] using O7.out, (HKr.out.alloc _).app HB7.out⟩
            case measure => simp [intOf]; omega
    · have hfull : ss.take k = ss := List.take_of_length_le (by have := HN.out; omega)
      rw [hfull] at HO
      clear hfull
      go_wp2
      go_ret
      exact ⟨⟨_, rfl, ⟨HO.out.mono HK1.out.size, fun x hx => by
        rcases mem_minN _ _ _ hx with h | h
        · cases h
        · exact HM.out x h⟩⟩, HK1.out.trans HKr.out⟩
theorem least_any (ns : List Nat) (v : Value) (w : World) (hv : SetsAt w v ns) (hl : ns.length ≤ 8796093022208) :
    Calls Tryz.prog 87 #[v] w fun e w' => (∃ v', e = .returned v' ∧ OwnSets w' 0 v' (minK ns)) ∧ Kept w w' :=
  (least_own ns v w hv hl).mono fun _ _ ⟨⟨v', h1, h2⟩, h3⟩ => ⟨⟨v', h1, ⟨h2.1.mono (Nat.zero_le _), h2.2⟩⟩, h3⟩
end Go.Proofs.YtngbjdaaogbjmaaGreat
