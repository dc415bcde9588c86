import Derived.Test.YtngbjdaaogbjmaaGreatX2m
/-
  Walks: faultlineref31.Part, Greatest.
-/
namespace Go.Proofs.YtngbjdaaogbjmaaGreat
open Go.RowKit
variable {Z : Option Nat}

theorem scanN_take (la lb : List Nat) (j : Nat) (h : j < lb.length) : scanN la (lb.take (j + 1)) 0 = stepN la (scanN la (lb.take j) 0) lb[j] := by
  unfold scanN
  rw [List.take_succ_eq_append_getElem h, List.foldl_append]; rfl
theorem scanN_le (la lb : List Nat) : ∀ k, k ≤ la.length → scanN la lb k ≤ la.length := by
  induction lb with
  | nil => intro k h; exact h
  | cons x lb ih =>
    intro k h
    show scanN la lb (stepN la k x) ≤ _
    refine ih _ ?_
    unfold stepN
    split
    · rename_i h2
      exact (List.getElem?_eq_some_iff.1 h2).1
    · exact h
set_option maxRecDepth 100000 in
set_option maxHeartbeats 4000000 in
theorem rrpart_any {a b : Nat} (ha : RowLt 152 a) (ua ub : Value) (w : World) (hua : NdsAt Z w ua a) (hub : NdsAt Z w ub b) :
    Calls Tryz.prog 145 #[.agg #[.int .i64 (evW a), ua], .agg #[.int .i64 (evW b), ub]] w fun e w' => e = .returned (.bool (subN a b)) ∧ Kept w w' := by
  have he := part_iff b ha
  have hea := evW_lt a
  have heb := evW_lt b
  have hs := sub_i64 (evW a) (evW b) (by omega) (by omega)
  obtain ⟨sa, ca, rfl⟩ := hua.shape
  obtain ⟨sb, cb, rfl⟩ := hub.shape
  have HGA := Lib.hid (fun i hi => hua.get i hi)
  have HGB := Lib.hid (fun i hi => hub.get i hi)
  have hla := nodesOf_len a
  have hlb := nodesOf_len b
  rw [he]
  clear he hua hub ha
  generalize nodesOf a = la at *
  generalize nodesOf b = lb at *
  generalize subN (evW a) (evW b) = x1 at *
  generalize evW a = ea at *
  generalize evW b = eb at *
  obtain ⟨na, hna⟩ : ∃ n, n = la.length := ⟨_, rfl⟩
  obtain ⟨nb, hnb⟩ : ∃ n, n = lb.length := ⟨_, rfl⟩
  rw [← hna] at hla ⊢
  rw [← hnb] at hlb ⊢
  have HNA := Lib.hid hna
  have HNB := Lib.hid hnb
  cases x1 with
  | false =>
    have b1 : (bits .andNot .i64 (ea : Int) (eb : Int) != 0) = true := by rw [bne, hs]; rfl
    clear hs hna hnb
    go_enter Tryz.func145, Tryz.ntmps145
    go_wp2
    go_ret
    exact ⟨rfl, ((Kept.refl _).alloc _).alloc _⟩
  | true =>
    have b1 : (bits .andNot .i64 (ea : Int) (eb : Int) != 0) = false := by rw [bne, hs]; rfl
    clear hs hna hnb
    go_enter Tryz.func145, Tryz.ntmps145
    go_wp2
    obtain ⟨L1, hL1⟩ : ∃ L : World, L = (w.alloc (.cells #[.int .i64 ea, .slice sa na ca] 118)).alloc (.cells #[.int .i64 eb, .slice sb nb cb] 118) := ⟨_, rfl⟩
    have HK1 : Hid (Kept w L1) := Lib.hid (by rw [hL1]; exact ((Kept.refl _).alloc _).alloc _)
    have c1 : L1.cell? ⟨w.heap.size, 1, none⟩ = some (.slice sa na ca) := by rw [hL1]; simp
    have HL1 := Lib.hid hL1
    clear hL1
    go_loopg [5, 17] nb (fun kx s5 s17 wr => ∃ j k : Nat, s5 = .int .i64 k ∧ s17 = .int .i64 j ∧ j ≤ nb ∧ nb - j ≤ kx ∧ k ≤ na ∧ Hid (k = scanN la (lb.take j) 0) ∧ Hid (Kept L1 wr))
    case atStart => exact ⟨0, 0, rfl, rfl, Nat.zero_le _, by omega, Nat.zero_le _, Lib.hid (by rw [List.take_zero]; rfl), Lib.hid (by rw [HL1.out]; exact Kept.refl _)⟩
    case round =>
      obtain ⟨j, k, rfl, rfl, hj, hjx, hk, HKS, HK⟩ := hrel
      have d1 := HK.out.cell c1
      by_cases hlt : j < nb
      · have hjl : j < lb.length := by have := HNB.out; omega
        obtain ⟨bb, ob, rfl, hcb0⟩ := HGB.out j (by rw [← HNB.out]; exact hlt)
        have hcb := (HK1.out.trans HK.out).cell hcb0
        have hnx := scanN_take la lb j hjl
        rw [← HKS.out] at hnx
        obtain ⟨y, hy⟩ : ∃ y, y = lb[j] := ⟨_, rfl⟩
        rw [← hy] at hcb hnx
        have hjn : (j : Int) < (nb : Int) := by omega
        clear hcb0 hy
        by_cases hkl : k < na
        · have hkl' : k < la.length := by have := HNA.out; omega
          obtain ⟨ba, oa, rfl, hca0⟩ := HGA.out k hkl'
          have hca := (HK1.out.trans HK.out).cell hca0
          unfold stepN at hnx
          rw [List.getElem?_eq_getElem hkl'] at hnx
          obtain ⟨x, hx⟩ : ∃ x, x = la[k] := ⟨_, rfl⟩
          rw [← hx] at hca hnx
          have hkn : (k : Int) < (na : Int) := by omega
          clear hca0 hx
          by_cases hxy : x = y
          · subst hxy
            rw [if_pos rfl] at hnx
            have HNX := Lib.hid hnx
            clear hnx
            go_wp2
            go_roundg (nb - (j + 1))
            case measure => omega
            case rel => exact ⟨j + 1, k + 1, by go_num, by go_num, by omega, Nat.le_refl _, by omega, Lib.hid HNX.out.symm, HK⟩
          · rw [if_neg (by simpa using hxy)] at hnx
            have b2 : ((x : Int) == (y : Int)) = false := by simp; omega
            have HNX := Lib.hid hnx
            clear hnx hxy
            go_wp2
            go_roundg (nb - (j + 1))
            case measure => omega
            case rel => exact ⟨j + 1, k, rfl, by go_num, by omega, Nat.le_refl _, by omega, Lib.hid HNX.out.symm, HK⟩
        · have hke : k = na := by omega
          unfold stepN at hnx
          rw [List.getElem?_eq_none (by have := HNA.out; omega), if_neg (by simp)] at hnx
          have HNX := Lib.hid hnx
          have hkn : ¬ (k : Int) < (na : Int) := by omega
          clear hnx hke
          go_wp2
          go_roundg (nb - (j + 1))
          case measure => omega
          case rel => exact ⟨j + 1, k, rfl, by go_num, by omega, Nat.le_refl _, by omega, Lib.hid HNX.out.symm, HK⟩
      · have HF : Hid (k = scanN la lb 0) := Lib.hid (by have h := HKS.out; rw [show j = nb by omega, HNB.out, List.take_length] at h; exact h)
        have hjn : ¬ (j : Int) < (nb : Int) := by omega
        go_wp2
        go_ret
        refine ⟨?_, HK1.out.trans HK.out⟩
        rw [← HF.out]
        show Ending.returned (Value.bool ((k : Int) == (na : Int))) = _
        congr 2
        rw [Bool.eq_iff_iff]; simp; omega
set_option maxRecDepth 100000 in
set_option maxHeartbeats 4000000 in
theorem rgreatest_any (B : Nat) (v : Value) (L : List Nat) (w : World) (hv : OwnRfs Z w B v L) : Calls Tryz.prog 88 #[v] w fun e w' => (∃ r : Int, e = .returned (.int .i64 r) ∧ GTop L r) ∧ Kept w w' := by
  have HV := Lib.hid hv
  have hl9 := hv.len
  obtain ⟨sa, sc, rfl, _⟩ := hv.slice
  obtain ⟨n, hn⟩ : ∃ n, n = L.length := ⟨_, rfl⟩
  rw [← hn] at HV hl9 ⊢
  have HN := Lib.hid hn
  clear hn hv
  go_enter Tryz.func88, Tryz.ntmps88
  go_wp2
  go_loopg [3, 8] n (fun kx s3 s8 wr => ∃ (k : Nat) (r : Int), s3 = .int .i64 r ∧ s8 = .int .i64 k ∧ k ≤ n ∧ n - k ≤ kx ∧ -1 ≤ r ∧ r ≤ 1000 ∧ Hid (GTop (L.take k) r) ∧ Hid (Kept w wr))
  case atStart => exact ⟨0, -1, rfl, rfl, Nat.zero_le _, by omega, by omega, by omega, Lib.hid GTop.nil, Lib.hid (Kept.refl _)⟩
  case round =>
    obtain ⟨k, r, rfl, rfl, hk, hkx, hr0, hr9, HG, HK⟩ := hrel
    by_cases hlt : k < n
    · have hkl : k < L.length := by have := HN.out; omega
      obtain ⟨b, ua, un, uc, rfl, hun, hnd, hrg⟩ := (HV.out.kept HK.out).get k hkl
      have hc152 : RowLt 152 L[k] := HV.out.lt _ (List.getElem_mem _)
      have HS : Hid (∀ s, TopIs L[k] s → GTop (L.take (k + 1)) (max r s)) := Lib.hid fun s hs => by
        rw [List.take_succ_eq_append_getElem hkl]; exact HG.out.snoc hs
      have HRG := Lib.hid hrg
      have hkn : (k : Int) < (n : Int) := by omega
      have hul := nodesOf_len L[k]
      by_cases hz : nodesOf L[k] = []
      · have hu0 : un = 0 := by rw [hun, hz]; rfl
        subst hu0
        have HF : Hid (GTop (L.take (k + 1)) r) := Lib.hid (by have h := HS.out _ (topIs_nil hc152 hz); rw [show max r (-1) = r by omega] at h; exact h)
        clear hz hun hnd hrg HS hul
        generalize evW L[k] = z0 at *
        go_wp2_with (with_reducible refine wpList_load_mid rfl 118 _ rfl b (k * 2) rfl _ _ HRG.out Tryz.underlying118 rfl (by kernel_rfl) ?_)
        go_roundg (n - (k + 1))
        case measure => omega
        case rel => exact ⟨k + 1, r, rfl, by go_num, by omega, Nat.le_refl _, hr0, hr9, HF, Lib.hid (HK.out.alloc _)⟩
      · obtain ⟨l, x, hlx⟩ : ∃ l x, nodesOf L[k] = l ++ [x] := ⟨_, _, (List.dropLast_concat_getLast hz).symm⟩
        have hu1 : un = l.length + 1 := by rw [hun, hlx]; simp
        have hxm : x ∈ nodesOf L[k] := by rw [hlx]; simp
        have hx128 := (mem_nodesOf.1 hxm).1
        obtain ⟨bu, ou, rfl, hcu⟩ := hnd.get l.length (by rw [hlx]; simp)
        have hgx : (nodesOf L[k])[l.length]'(by rw [hlx]; simp) = x := by simp [hlx]
        rw [hgx] at hcu
        obtain ⟨m, hm⟩ : ∃ m, m = l.length := ⟨_, rfl⟩
        rw [← hm] at hcu hu1
        have hm9 : m ≤ 128 := by rw [hlx] at hul; simp at hul; omega
        have HF : Hid (GTop (L.take (k + 1)) (max r x)) := Lib.hid (HS.out _ (topIs_last hc152 hlx))
        have q1 : (un : Int) - 1 = (m : Int) := by omega
        have q2 : (0 : Int) < (un : Int) := by omega
        have hcu2 := ((Kept.refl wr).alloc (.cells #[.int .i64 (evW L[k]), .slice (some ⟨bu, ou, none⟩) un uc] 118)).cell hcu
        clear hz hun hnd hrg HS hul hlx hxm hgx hm hcu hu1
        generalize evW L[k] = z0 at *
        go_wp2_with (with_reducible refine wpList_load_mid rfl 118 _ rfl b (k * 2) rfl _ _ HRG.out Tryz.underlying118 rfl (by kernel_rfl) ?_)
        go_roundg (n - (k + 1))
        case measure => omega
        case rel => exact ⟨k + 1, max r x, by go_num, by go_num, by omega, Nat.le_refl _, by omega, by omega, HF, Lib.hid (HK.out.alloc _)⟩
    · have hke : k = n := by omega
      have HF : Hid (GTop L r) := Lib.hid (by have h := HG.out; rw [hke, HN.out, List.take_length] at h; exact h)
      have hkn : ¬ (k : Int) < (n : Int) := by omega
      go_wp2
      go_ret
      exact ⟨⟨_, rfl, HF.out⟩, HK.out⟩
end Go.Proofs.YtngbjdaaogbjmaaGreat
