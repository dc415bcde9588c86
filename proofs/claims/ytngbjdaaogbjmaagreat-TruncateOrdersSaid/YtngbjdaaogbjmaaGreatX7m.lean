import Derived.Test.YtngbjdaaogbjmaaGreatX5m
import Derived.Deep.CutBlock
/-
  Walks: faultlineref31.Expand.
-/
namespace Go.Proofs.YtngbjdaaogbjmaaGreat
open Go.RowKit
variable {Z : Option Nat}

theorem NdsAt.room {w : World} {a : Option Addr} {n c r : Nat} (h : NdsAt Z w (.slice a n c) r) : n = (nodesOf r).length ∧ n ≤ c := by
  obtain ⟨a', c', h1, h2, _⟩ := OwnInts.ints h.1
  injection h1 with h1 h3 h4
  rw [h4, h3]
  exact ⟨by simp [ofN], h2.1⟩
theorem expK_one (V : Nat) (x : Nd) (i : Nat) (L : List Nat) (k : Nat) (h : k < L.length) : (expR V x i L[k]).length ≤ (expK V x i L).length := by
  have h1 := expK_take V x i L k h
  have h2 := expK_len_take V x i L (k + 1)
  rw [h1, List.length_append] at h2
  omega
set_option maxRecDepth 100000 in
set_option maxHeartbeats 16000000 in
theorem rexpand_any (B V i b o n c T : Nat) (x : Nd) (ua : Option Addr) (um uc : Nat) (v : Value) (L : List Nat) (w : World) (hZ : ∀ z, Z = some z → z < w.heap.size) (hV : V ≤ 24) (hv : OwnRfs Z w B v L) (hl : L.length ≤ 1024) (hi : i < 128) (hin : i < n)
    (hnd : w.rangeAt b (o + i * 3) [.int .i64 x.kind, .int .i64 x.k, .slice ua um uc]) (hia : IntsAt w (.slice ua um uc) x.args)
    (hargs : ∀ a ∈ x.args, 0 ≤ a ∧ a < (V : Int) + 128) (h16 : x.args.length ≤ 16) (hkd : x.kind = 0 ∨ x.kind = 2 ∨ x.kind = 3 ∨ x.kind = 4) (h4 : x.kind = 4 → 1 ≤ x.k ∧ x.k ≤ x.args.length)
    (hne : x.kind ≠ 0 → 1 ≤ x.args.length) (hmax : ∀ r ∈ L, ∀ j, r.testBit (24 + j) = true → j ≤ i) :
    Calls Tryz.prog 84 #[.agg #[.int .i64 V, .slice (some ⟨b, o, none⟩) n c, .int .i64 T], v, .int .i64 i] w fun e w' =>
      ((4096 < (expK V x i L).length ∧ ∃ v', e = .returned (.tuple #[v', .bool true])) ∨ ((expK V x i L).length ≤ 4096 ∧ ∃ v', e = .returned (.tuple #[v', .bool false]) ∧ OwnRfs Z w' w.heap.size v' (expK V x i L))) ∧ Kept w w' := by
  have HV := Lib.hid hv
  obtain ⟨sa, sc, rfl, _⟩ := hv.slice
  obtain ⟨ln, hln⟩ : ∃ n, n = L.length := ⟨_, rfl⟩
  rw [← hln] at HV hl ⊢
  have HLN := Lib.hid hln
  have HMX := Lib.hid hmax
  have HND := Lib.hid hnd
  obtain ⟨kd, kk, args⟩ := x
  simp only at hia hargs h16 hkd h4 hne HND
  have hum : um = args.length := by
    obtain ⟨_, _, h, _⟩ := hia
    injection h
  have HUM := Lib.hid hum
  have hum9 : um ≤ 16 := by omega
  obtain ⟨x, hx⟩ : ∃ x, x = (⟨kd, kk, args⟩ : Nd) := ⟨_, rfl⟩
  rw [← hx]
  -- what a kind makes of a row
  have HCH : Hid (∀ (K : Nat) (W : World) (q : Nat) (u : Value), K ≤ 1000 → Kept w W → NdsAt Z W u q → RowLt 152 q → Calls Tryz.prog 143 #[.agg #[.int .i64 V, .slice (some ⟨b, o, none⟩) n c, .int .i64 T], .agg #[.int .i64 (evW q), u], .slice ua um uc, .int .i64 K, .int .i64 4096] W fun e w' => (∃ v', e = .returned v' ∧ OwnRfs Z w' W.heap.size v' (refCh V args K q 4096)) ∧ Kept W w') := Lib.hid fun K W q u hK hk hu hq =>
    rchoices_any V T _ ⟨_, _, _, rfl⟩ hV args _ w hZ hia hargs (by omega) K q 4096 u W hk hu hq hK (by omega) (by omega)
  have HEX : Hid (∀ q, (kd = 2 → expandK V x i q = chooseK V args args.length (sdiff q (2 ^ (24 + i)))) ∧ (kd = 3 → expandK V x i q = chooseK V args 1 (sdiff q (2 ^ (24 + i)))) ∧ (kd = 4 → expandK V x i q = chooseK V args kk.toNat (sdiff q (2 ^ (24 + i)))) ∧ (kd = 0 → expandK V x i q = if kk = 1 then [sdiff q (2 ^ (24 + i))] else [])) := Lib.hid fun q => by
    rw [hx]
    unfold expandK
    refine ⟨fun h => ?_, fun h => ?_, fun h => ?_, fun h => ?_⟩
    · simp only [h]; rw [if_neg (by decide), if_pos trivial, chooseK_all]
    · simp only [h]; rw [if_neg (by decide), if_neg (by decide), if_pos trivial, chooseK_one]
    · simp only [h]; rw [if_neg (by decide), if_neg (by decide), if_neg (by decide)]
    · simp only [h]; rw [if_pos trivial]
  have HRF : Hid (∀ (K q : Nat), K ≠ 0 → (refCh V args K q 4096).length ≤ 4097 ∧ ((chooseK V args K q).length ≤ 4096 → refCh V args K q 4096 = chooseK V args K q) ∧ (4096 < (chooseK V args K q).length → 4096 < (refCh V args K q 4096).length)) := Lib.hid fun K q hK => by
    have h1 := refCh_spec V args K q 4096 (by omega)
    have h2 := refCh_len V args K q 4096 hK
    exact ⟨by omega, fun h => h1.1 (by omega), fun h => by have := h1.2 (by omega); omega⟩
  have hinI : (i : Int) < (n : Int) := by omega
  clear hv hln hmax hnd hia hargs h16 hum hx hZ
  go_enter Tryz.func84, Tryz.ntmps84
  go_wp2_with (with_reducible refine wpList_load_mid rfl 70 _ rfl b (o + i * 3) rfl _ _ (range_kept HND.out ((Kept.refl _).alloc _)) Tryz.underlying70 rfl (by kernel_rfl) ?_)
  obtain ⟨L1, hL1⟩ : ∃ W : World, W = (w.alloc (.cells #[.int .i64 V, .slice (some ⟨b, o, none⟩) n c, .int .i64 T] 24)).alloc (.cells #[.int .i64 kd, .int .i64 kk, .slice ua um uc] 70) := ⟨_, rfl⟩
  have HL1 := Lib.hid hL1
  have HKL : Hid (Kept w L1) := Lib.hid (by rw [hL1]; exact ((Kept.refl _).alloc _).alloc _)
  have c0 : L1.cell? ⟨w.heap.size, 0, none⟩ = some (.int .i64 V) := by rw [hL1]; simp
  have c1 : L1.cell? ⟨w.heap.size, 1, none⟩ = some (.slice (some ⟨b, o, none⟩) n c) := by rw [hL1]; simp
  have c2 : L1.cell? ⟨w.heap.size, 2, none⟩ = some (.int .i64 T) := by rw [hL1]; simp
  have m0 : L1.cell? ⟨w.heap.size + 1, 0, none⟩ = some (.int .i64 kd) := by rw [hL1]; simp
  have m1 : L1.cell? ⟨w.heap.size + 1, 1, none⟩ = some (.int .i64 kk) := by rw [hL1]; simp
  have m2 : L1.cell? ⟨w.heap.size + 1, 2, none⟩ = some (.slice ua um uc) := by rw [hL1]; simp
  clear hL1
  go_loopg [9, 20] ln (fun kx s9 s20 wr => ∃ (k : Nat) (vo : Value), s9 = vo ∧ s20 = .int .i64 k ∧ k ≤ ln ∧ ln - k ≤ kx ∧ Hid (OwnRfs Z wr L1.heap.size vo (expK V x i (L.take k)) ∧ (expK V x i (L.take k)).length ≤ 4096 + k) ∧ Hid (Kept L1 wr))
  case atStart => exact ⟨0, _, rfl, rfl, Nat.zero_le _, by omega, Lib.hid ⟨by simpa [expK] using OwnRfs.nil _ _, by simp [expK]⟩, Lib.hid (by rw [HL1.out]; exact Kept.refl _)⟩
  case round =>
    obtain ⟨k, vo, rfl, rfl, hk, hkx, HO, HK⟩ := hrel
    obtain ⟨oa, oc, hvo, _⟩ := HO.out.1.slice
    obtain ⟨on, hon⟩ : ∃ on, on = (expK V x i (L.take k)).length := ⟨_, rfl⟩
    have hol := HO.out.2
    rw [← hon] at hvo hol
    subst hvo
    have HON := Lib.hid hon
    have HKW := Lib.hid (HKL.out.trans HK.out)
    have hszw := HK.out.size
    clear hon
    by_cases hlt : k < ln
    · have hkl : k < L.length := by have := HLN.out; omega
      obtain ⟨b2, qa, qm, qc, rfl, hqm, hqn, hrg⟩ := (HV.out.kept HKW.out).get k hkl
      have hqr := HV.out.lt L[k] (List.getElem_mem _)
      have hqx := HMX.out L[k] (List.getElem_mem _)
      have hnext := expK_take V x i L k hkl
      have hone := expK_one V x i L k hkl
      obtain ⟨q, hqq⟩ : ∃ q, q = L[k] := ⟨_, rfl⟩
      rw [← hqq] at hqm hqn hrg hqr hqx hnext hone
      unfold expR at hnext hone
      have hkn : (k : Int) < (ln : Int) := by omega
      have hq9 : qm ≤ 128 := by rw [hqm]; exact nodesOf_len q
      have hqc := hqn.room.2
      obtain ⟨q0, hq0⟩ : ∃ y, y = evW q := ⟨_, rfl⟩
      have HQ0 := Lib.hid hq0
      have HRG : Hid (wr.rangeAt b2 (k * 2) [.int .i64 q0, .slice qa qm qc]) := Lib.hid (by rw [hq0]; exact hrg)
      have HQR := Lib.hid hqr
      have HQN := Lib.hid hqn
      clear hrg hqq hq0
      cases hb : q.testBit (24 + i) with
      | false =>
        rw [hb] at hnext
        rw [if_neg (by simp)] at hnext
        have HNX := Lib.hid hnext
        have hlen20 : on < 20000 := by omega
        have HAP : Hid (∀ W, Kept wr W → OwnRfs Z W L1.heap.size (.slice oa on oc) (expK V x i (L.take k))) := Lib.hid fun W hk => HO.out.1.kept hk
        by_cases hz : nodesOf q = []
        · have hm0 : qm = 0 := by rw [hqm, hz]; rfl
          subst hm0
          clear hz hqm hqn hqr hqx hnext hone hb
          go_wp2_with (first | (with_reducible refine wpList_load_mid rfl 118 _ rfl b2 (k * 2) rfl _ _ HRG.out Tryz.underlying118 rfl (by kernel_rfl) ?_) | (at_builtin; refine app_rf rfl _ _ rfl L1.heap.size _ (expK V x i (L.take k)) rfl (HAP.out _ (((Kept.refl _).alloc _).alloc _)) (wr.heap.size + 1) q (.slice qa 0 qc) rfl (two_range (by rw [← HQ0.out]; simp) (by simp)) (HQN.out.kept (((Kept.refl _).alloc _).alloc _)) HQR.out (by rw [← HON.out]; exact hlen20) (by simp; omega) ?_; intro v7 w7 hown7 hb7; have O7 := Lib.hid hown7; have HB7 := Lib.hid hb7; clear hown7 hb7))
          go_roundg (ln - (k + 1))
          case measure => omega
          case rel => exact ⟨k + 1, _, rfl, by go_num, by omega, Nat.le_refl _, Lib.hid ⟨by rw [HNX.out]; exact O7.out, by rw [HNX.out, List.length_append, ← HON.out]; simp; omega⟩, Lib.hid (((HK.out.alloc _).alloc _).app HB7.out)⟩
        · obtain ⟨l, y, hly⟩ : ∃ l y, nodesOf q = l ++ [y] := ⟨_, _, (List.dropLast_concat_getLast hz).symm⟩
          have hu1 : qm = l.length + 1 := by rw [hqm, hly]; simp
          have hym : y ∈ nodesOf q := by rw [hly]; simp
          have hyb := (mem_nodesOf.1 hym).2
          have hyi : y ≠ i := by rintro rfl; rw [hb] at hyb; cases hyb
          obtain ⟨bu, ou, rfl, hcu⟩ := hqn.get l.length (by rw [hly]; simp)
          have hgx : (nodesOf q)[l.length]'(by rw [hly]; simp) = y := by simp [hly]
          rw [hgx] at hcu
          obtain ⟨m, hm⟩ : ∃ m, m = l.length := ⟨_, rfl⟩
          rw [← hm] at hcu hu1
          have b1 : ((y : Int) != (i : Int)) = true := by simp; omega
          have e2 : ((qm : Int) == 0) = false := by simp; omega
          have q1 : (qm : Int) - 1 = (m : Int) := by omega
          have hcu2 := ((Kept.refl wr).alloc (.cells #[.int .i64 q0, .slice (some ⟨bu, ou, none⟩) qm qc] 118)).cell hcu
          clear hz hqm hqn hqr hqx hnext hone hb hly hym hyb hyi hgx hm hcu hu1
          go_wp2_with (first | (with_reducible refine wpList_load_mid rfl 118 _ rfl b2 (k * 2) rfl _ _ HRG.out Tryz.underlying118 rfl (by kernel_rfl) ?_) | (at_builtin; refine app_rf rfl _ _ rfl L1.heap.size _ (expK V x i (L.take k)) rfl (HAP.out _ (((Kept.refl _).alloc _).alloc _)) (wr.heap.size + 1) q (.slice (some ⟨bu, ou, none⟩) qm qc) rfl (two_range (by rw [← HQ0.out]; simp) (by simp)) (HQN.out.kept (((Kept.refl _).alloc _).alloc _)) HQR.out (by rw [← HON.out]; exact hlen20) (by simp; omega) ?_; intro v7 w7 hown7 hb7; have O7 := Lib.hid hown7; have HB7 := Lib.hid hb7; clear hown7 hb7))
          go_roundg (ln - (k + 1))
          case measure => omega
          case rel => exact ⟨k + 1, _, rfl, by go_num, by omega, Nat.le_refl _, Lib.hid ⟨by rw [HNX.out]; exact O7.out, by rw [HNX.out, List.length_append, ← HON.out]; simp; omega⟩, Lib.hid (((HK.out.alloc _).alloc _).app HB7.out)⟩
      | true =>
        rw [hb] at hnext hone
        rw [if_pos rfl] at hnext hone
        have HNX := Lib.hid hnext
        have HONE := Lib.hid hone
        have hdr := nodesOf_drop q i hi hb (hqx)
        obtain ⟨q', hq'⟩ : ∃ z, z = sdiff q (2 ^ (24 + i)) := ⟨_, rfl⟩
        have hev' : evW q' = evW q := by rw [hq']; exact evW_sd q i
        have hrl' : RowLt 152 q' := by
          rw [hq']
          intro j hj
          rw [bit_sd_pow] at hj
          simp only [Bool.and_eq_true] at hj
          exact hqr j hj.1
        rw [← hq'] at hdr
        have hqm1 : qm = (nodesOf q').length + 1 := by rw [hqm, hdr]; simp
        have hpre := hqn.prefix hdr
        obtain ⟨bu, ou, rfl, hcu⟩ := hqn.get (nodesOf q').length (by rw [hdr]; simp)
        have hgx : (nodesOf q)[(nodesOf q').length]'(by rw [hdr]; simp) = i := by simp [hdr]
        rw [hgx] at hcu
        obtain ⟨m, hm⟩ : ∃ m, m = qm - 1 := ⟨_, rfl⟩
        rw [show (nodesOf q').length = m by omega] at hcu
        rw [← hm] at hpre
        have b1 : ((i : Int) != (i : Int)) = false := by simp
        have e2 : ((qm : Int) == 0) = false := by simp; omega
        have q1 : (qm : Int) - 1 = (m : Int) := by omega
        have q2 : (0 : Int) ≤ (m : Int) := by omega
        have q3 : (m : Int) ≤ (qc : Int) := by omega
        have hcu2 := ((Kept.refl wr).alloc (.cells #[.int .i64 q0, .slice (some ⟨bu, ou, none⟩) qm qc] 118)).cell hcu
        have HQ' := Lib.hid hq'
        have HRL := Lib.hid hrl'
        have HPRE := Lib.hid hpre
        have HEV : Hid (q0 = evW q') := Lib.hid (by rw [hev']; exact HQ0.out)
        clear hqm hqn hqr hqx hnext hone hb hdr hgx hm hcu hq' hev' hrl' hpre hqm1
        go_wp2_with (with_reducible refine wpList_load_mid rfl 118 _ rfl b2 (k * 2) rfl _ _ HRG.out Tryz.underlying118 rfl (by kernel_rfl) ?_)
        go_cut [12] (fun p12 wx => p12 = .pointer (some ⟨wr.heap.size + 1, 0, none⟩) ∧ wx.cell? ⟨wr.heap.size + 1, 0, none⟩ = some (.int .i64 q0) ∧ wx.cell? ⟨wr.heap.size + 1, 1, none⟩ = some (.slice (some ⟨bu, ou, none⟩) m qc) ∧ Hid (Kept wr wx))
        case first =>
          go_region
          all_goals go_wp2
          all_goals go_meet
          all_goals exact ⟨rfl, by simp, by simp, Lib.hid (by first | exact ((Kept.refl _).alloc _).alloc _ | exact (((Kept.refl _).alloc _).alloc _).drew)⟩
        case rest =>
          obtain ⟨rfl, p0, p1, HKX⟩ := hcut
          have HKLX := Lib.hid (HK.out.trans HKX.out)
          have d0 := HKLX.out.cell c0
          have d1 := HKLX.out.cell c1
          have d2 := HKLX.out.cell c2
          have n0 := HKLX.out.cell m0
          have n1 := HKLX.out.cell m1
          have n2 := HKLX.out.cell m2
          have hszx := HKX.out.size
          have HOX := Lib.hid (HO.out.1.kept HKX.out)
          have HC1 : Hid (∀ (K : Nat), K ≤ 1000 → Calls Tryz.prog 143 #[.agg #[.int .i64 V, .slice (some ⟨b, o, none⟩) n c, .int .i64 T], .agg #[.int .i64 q0, .slice (some ⟨bu, ou, none⟩) m qc], .slice ua um uc, .int .i64 K, .int .i64 4096] wc fun e w' => (∃ v', e = .returned v' ∧ OwnRfs Z w' wc.heap.size v' (refCh V args K q' 4096)) ∧ Kept wc w') := Lib.hid fun K hK => by
            rw [HEV.out]
            exact HCH.out K wc q' _ hK (HKL.out.trans HKLX.out) (HPRE.out.kept HKX.out) HRL.out
          have HEQ := HEX.out q
          rw [← HQ'.out] at HEQ
          have HEQ2 := Lib.hid HEQ
          have HON2 : Hid ((expK V x i (L.take k)).length ≤ 5200) := Lib.hid (by rw [← HON.out]; omega)
          clear HEQ hcu2 b1 e2 q1 q2 q3 HRG
          go_upto_block 2 with fail
          go_cut [9] (fun p9 wy => ∃ (v9 : Value) (M : List Nat), p9 = v9 ∧ Hid (OwnRfs Z wy L1.heap.size v9 (expK V x i (L.take k) ++ M)) ∧ Hid (M.length ≤ 4097 ∧ (M = expandK V x i q ∨ (4096 < M.length ∧ 4096 < (expandK V x i q).length))) ∧ Hid (Kept L1 wy))
          case first =>
            rcases hkd with rfl | rfl | rfl | rfl
            · by_cases hk1 : kk = 1
              · subst hk1
                go_wp2_with (at_builtin; refine app_rf rfl _ _ rfl L1.heap.size _ (expK V x i (L.take k)) rfl (HOX.out.kept ((Kept.refl _).alloc _)) wc.heap.size q' (.slice (some ⟨bu, ou, none⟩) m qc) rfl (two_range (by rw [← HEV.out]; simp) (by simp)) (HPRE.out.kept (HKX.out.alloc _)) HRL.out (by have := HON2.out; omega) (by simp; omega) ?_; intro v7 w7 hown7 hb7; have O7 := Lib.hid hown7; have HB7 := Lib.hid hb7; clear hown7 hb7)
                go_meet
                exact ⟨_, [q'], rfl, O7, Lib.hid ⟨by simp, .inl (by rw [HEQ2.out.2.2.2 (by trivial)]; simp)⟩, Lib.hid ((HKLX.out.alloc _).app HB7.out)⟩
              · have hk1' : (kk == 1) = false := by simpa using hk1
                go_wp2
                go_meet
                exact ⟨_, [], rfl, Lib.hid (by rw [List.append_nil]; exact HOX.out), Lib.hid ⟨by simp, .inl (by rw [HEQ2.out.2.2.2 (by trivial)]; simp [hk1])⟩, HKLX⟩
            · have HC := HC1.out um (by omega)
              have HC2 := Lib.hid HC
              have hum0 : um ≠ 0 := by have := hne (by decide); have := HUM.out; omega
              have HRR := Lib.hid (HRF.out um q' hum0)
              clear HC
              go_wp2_with (first
                | (go_at_call 143; refine HC2.out.mono ?_; rintro e w4 ⟨⟨v4, rfl, hv4⟩, hk4⟩; have HV4 := Lib.hid hv4; have HK4 := Lib.hid hk4; obtain ⟨va4, vc4, rfl, _⟩ := hv4.slice; clear hv4 hk4)
                | (at_builtin; refine app_rfs rfl _ _ rfl L1.heap.size _ (expK V x i (L.take k)) rfl (HOX.out.kept HK4.out) _ _ rfl (HV4.out.mono (Nat.zero_le _)) (by have := HON2.out; have := HRR.out.1; omega) (by have := HK4.out.size; omega) ?_; intro v7 w7 hown7 hb7; have O7 := Lib.hid hown7; have HB7 := Lib.hid hb7; clear hown7 hb7))
              go_meet
              exact ⟨_, _, rfl, O7, Lib.hid ⟨HRR.out.1, by
                rw [HEQ2.out.1 (by trivial), ← HUM.out]
                by_cases h : (chooseK V args um q').length ≤ 4096
                · exact .inl (HRR.out.2.1 h)
                · exact .inr ⟨HRR.out.2.2 (by omega), by omega⟩⟩, Lib.hid ((HKLX.out.trans HK4.out).app HB7.out)⟩
            · have HC2 := Lib.hid (HC1.out 1 (by omega))
              have HRR := Lib.hid (HRF.out 1 q' (by omega))
              go_wp2_with (first
                | (go_at_call 143; refine HC2.out.mono ?_; rintro e w4 ⟨⟨v4, rfl, hv4⟩, hk4⟩; have HV4 := Lib.hid hv4; have HK4 := Lib.hid hk4; obtain ⟨va4, vc4, rfl, _⟩ := hv4.slice; clear hv4 hk4)
                | (at_builtin; refine app_rfs rfl _ _ rfl L1.heap.size _ (expK V x i (L.take k)) rfl (HOX.out.kept HK4.out) _ _ rfl (HV4.out.mono (Nat.zero_le _)) (by have := HON2.out; have := HRR.out.1; omega) (by have := HK4.out.size; omega) ?_; intro v7 w7 hown7 hb7; have O7 := Lib.hid hown7; have HB7 := Lib.hid hb7; clear hown7 hb7))
              go_meet
              exact ⟨_, _, rfl, O7, Lib.hid ⟨HRR.out.1, by
                rw [HEQ2.out.2.1 (by trivial)]
                by_cases h : (chooseK V args 1 q').length ≤ 4096
                · exact .inl (HRR.out.2.1 h)
                · exact .inr ⟨HRR.out.2.2 (by omega), by omega⟩⟩, Lib.hid ((HKLX.out.trans HK4.out).app HB7.out)⟩
            · obtain ⟨K, rfl⟩ := Int.eq_ofNat_of_zero_le (show 0 ≤ kk by have := h4 rfl; omega)
              have h4' := h4 rfl
              have HC2 := Lib.hid (HC1.out K (by have := HUM.out; omega))
              have HRR := Lib.hid (HRF.out K q' (by omega))
              clear h4'
              go_wp2_with (first
                | (go_at_call 143; refine HC2.out.mono ?_; rintro e w4 ⟨⟨v4, rfl, hv4⟩, hk4⟩; have HV4 := Lib.hid hv4; have HK4 := Lib.hid hk4; obtain ⟨va4, vc4, rfl, _⟩ := hv4.slice; clear hv4 hk4)
                | (at_builtin; refine app_rfs rfl _ _ rfl L1.heap.size _ (expK V x i (L.take k)) rfl (HOX.out.kept HK4.out) _ _ rfl (HV4.out.mono (Nat.zero_le _)) (by have := HON2.out; have := HRR.out.1; omega) (by have := HK4.out.size; omega) ?_; intro v7 w7 hown7 hb7; have O7 := Lib.hid hown7; have HB7 := Lib.hid hb7; clear hown7 hb7))
              go_meet
              exact ⟨_, _, rfl, O7, Lib.hid ⟨HRR.out.1, by
                rw [HEQ2.out.2.2.1 (by trivial), Int.toNat_natCast]
                by_cases h : (chooseK V args K q').length ≤ 4096
                · exact .inl (HRR.out.2.1 h)
                · exact .inr ⟨HRR.out.2.2 (by omega), by omega⟩⟩, Lib.hid ((HKLX.out.trans HK4.out).app HB7.out)⟩
          case rest =>
            obtain ⟨v9, M, rfl, HO9, HM9, HK9⟩ := hcut
            obtain ⟨a9, c9, hv9, _⟩ := HO9.out.slice
            obtain ⟨n9, hn9⟩ : ∃ n, n = (expK V x i (L.take k) ++ M).length := ⟨_, rfl⟩
            rw [← hn9] at hv9
            subst hv9
            have HN9 := Lib.hid hn9
            clear hn9 d0 d1 d2 n0 n1 n2 p0 p1
            by_cases hbig : 4096 < n9
            · have hbig' : (n9 : Int) > 4096 := by omega
              go_wp2
              go_ret2
              refine ⟨.inl ⟨?_, _, rfl⟩, HKL.out.trans HK9.out⟩
              rcases HM9.out.2 with h | ⟨_, h⟩
              · have h2 := expK_len_take V x i L (k + 1)
                rw [HNX.out, ← h] at h2
                have := HN9.out
                omega
              · exact Nat.lt_of_lt_of_le h HONE.out
            · have hbig' : ¬ (n9 : Int) > 4096 := by omega
              have hM : M = expandK V x i q := by
                rcases HM9.out.2 with h | ⟨h, _⟩
                · exact h
                · have := HN9.out
                  rw [List.length_append] at this
                  omega
              have HF : Hid (OwnRfs Z wc L1.heap.size (.slice a9 n9 c9) (expK V x i (L.take (k + 1))) ∧ (expK V x i (L.take (k + 1))).length ≤ 4096 + (k + 1)) := Lib.hid (by
                rw [HNX.out, ← hM]
                exact ⟨HO9.out, by rw [← HN9.out]; omega⟩)
              clear hM
              go_wp2
              go_roundg (ln - (k + 1))
              case measure => omega
              case rel => exact ⟨k + 1, _, rfl, by go_num, by omega, Nat.le_refl _, HF, HK9⟩
    · have hkn : ¬ (k : Int) < (ln : Int) := by omega
      have hfull : expK V x i (L.take k) = expK V x i L := by rw [show k = ln by omega, HLN.out, List.take_length]
      have HFU := Lib.hid hfull
      clear hfull
      by_cases hbig : 4096 < on
      · have hbig' : (on : Int) > 4096 := by omega
        go_wp2
        go_ret2
        exact ⟨.inl ⟨by rw [← HFU.out, ← HON.out]; exact hbig, _, rfl⟩, HKW.out⟩
      · have hbig' : ¬ (on : Int) > 4096 := by omega
        go_wp2
        go_ret2
        exact ⟨.inr ⟨by rw [← HFU.out, ← HON.out]; omega, _, rfl, by have := HO.out.1; rw [HFU.out] at this; exact this.mono HKL.out.size⟩, HKW.out⟩
end Go.Proofs.YtngbjdaaogbjmaaGreat
