import Derived.Test.YtngbjdaaogbjmaaGreatX3m
/-
  Walks: faultlineref31.Minimal.
-/
namespace Go.Proofs.YtngbjdaaogbjmaaGreat
open Go.RowKit
variable {Z : Option Nat}

def keptTo (L : List Nat) (i m : Nat) : Bool := (List.range m).all fun j => !outAt L i j
theorem keptTo_succ (L : List Nat) (i j : Nat) : keptTo L i (j + 1) = (keptTo L i j && !outAt L i j) := by
  unfold keptTo
  rw [List.range_succ, List.all_append]; simp
theorem getD_get (L : List Nat) (i : Nat) (h : i < L.length) : L.getD i 0 = L[i] := by
  rw [List.getD_eq_getElem?_getD, List.getElem?_eq_getElem h]; rfl
set_option maxRecDepth 100000 in
set_option maxHeartbeats 8000000 in
theorem rminimal_any (B : Nat) (v : Value) (L : List Nat) (w : World) (hv : OwnRfs Z w B v L) : Calls Tryz.prog 86 #[v] w fun e w' => (∃ v', e = .returned v' ∧ OwnRfs Z w' w.heap.size v' (refMin L)) ∧ Kept w w' := by
  have HV := Lib.hid hv
  have hl9 := hv.len
  obtain ⟨sa, sc, rfl, _⟩ := hv.slice
  obtain ⟨n, hn⟩ : ∃ n, n = L.length := ⟨_, rfl⟩
  rw [← hn] at HV hl9 ⊢
  have HN := Lib.hid hn
  clear hn hv
  go_enter Tryz.func86, Tryz.ntmps86
  go_wp2
  go_loopg [3, 11] n (fun kx s3 s11 wr => ∃ (i : Nat) (vo : Value), s3 = vo ∧ s11 = .int .i64 i ∧ i ≤ n ∧ n - i ≤ kx ∧ Hid (OwnRfs Z wr w.heap.size vo (refMinTo L i)) ∧ Hid (Kept w wr))
  case atStart => exact ⟨0, _, rfl, rfl, Nat.zero_le _, by omega, Lib.hid (OwnRfs.nil _ _), Lib.hid (Kept.refl _)⟩
  case round =>
    obtain ⟨wo, rfl⟩ : ∃ wo : World, wo = wr := ⟨_, rfl⟩
    obtain ⟨i, vo, rfl, rfl, hi, hix, HO, HK⟩ := hrel
    obtain ⟨oa, oc, hvo, _⟩ := HO.out.slice
    obtain ⟨on, hon⟩ : ∃ on, on = (refMinTo L i).length := ⟨_, rfl⟩
    rw [← hon] at hvo
    subst hvo
    have HON := Lib.hid hon
    clear hon
    by_cases hlt : i < n
    · have hil : i < L.length := by have := HN.out; omega
      obtain ⟨b, ia, im, ic, rfl, him, hnd, hrg⟩ := (HV.out.kept HK.out).get i hil
      have hc152 : RowLt 152 L[i] := HV.out.lt _ (List.getElem_mem _)
      have HRG := Lib.hid hrg
      have HND := Lib.hid hnd
      have HRL := Lib.hid hc152
      have hin : (i : Int) < (n : Int) := by omega
      have him9 : im ≤ 128 := by rw [him]; exact nodesOf_len _
      have HGI := Lib.hid (getD_get L i hil)
      have hsz := HK.out.size
      obtain ⟨x, hx⟩ : ∃ x, x = L[i] := ⟨_, rfl⟩
      rw [← hx] at HRG HND HRL HGI
      obtain ⟨x0, hx0⟩ : ∃ y, y = evW x := ⟨_, rfl⟩
      have HX0 := Lib.hid hx0
      rw [← hx0] at HRG
      clear hrg hnd hc152 him hx hx0
      go_wp2_with (with_reducible refine wpList_load_mid rfl 118 _ rfl b (i * 2) rfl _ _ HRG.out Tryz.underlying118 rfl (by kernel_rfl) ?_)
      obtain ⟨L5, hL5⟩ : ∃ W : World, W = wo.alloc (.cells #[.int .i64 x0, .slice ia im ic] 118) := ⟨_, rfl⟩
      have HL5 := Lib.hid hL5
      have HK5 : Hid (Kept wo L5) := Lib.hid (by rw [hL5]; exact (Kept.refl _).alloc _)
      have e0 : L5.cell? ⟨wo.heap.size, 0, none⟩ = some (.int .i64 x0) := by rw [hL5]; simp
      have e1 : L5.cell? ⟨wo.heap.size, 1, none⟩ = some (.slice ia im ic) := by rw [hL5]; simp
      clear hL5
      go_loopg [6, 18] n (fun kx s6 s18 wr => ∃ (j : Nat) (bb : Bool), s6 = .bool bb ∧ s18 = .int .i64 j ∧ j ≤ n ∧ n - j ≤ kx ∧ Hid (bb = keptTo L i j) ∧ Hid (Kept L5 wr))
      case atStart => exact ⟨0, true, rfl, rfl, Nat.zero_le _, by omega, Lib.hid rfl, Lib.hid (by rw [HL5.out]; exact Kept.refl _)⟩
      case round =>
        obtain ⟨j, bb, rfl, rfl, hj, hjx, HB, HKJ⟩ := hrel
        have d0 := HKJ.out.cell e0
        have d1 := HKJ.out.cell e1
        by_cases hlj : j < n
        · have hjl : j < L.length := by have := HN.out; omega
          obtain ⟨b', ja, jm, jc, hbb, hjm, hndj, hrgj⟩ := (HV.out.kept ((HK.out.trans HK5.out).trans HKJ.out)).get j hjl
          have hbb2 : b = b' := by simpa using hbb
          subst hbb2
          have hcj : RowLt 152 L[j] := HV.out.lt _ (List.getElem_mem _)
          have hjn : (j : Int) < (n : Int) := by omega
          have hjm9 : jm ≤ 128 := by rw [hjm]; exact nodesOf_len _
          have hst := keptTo_succ L i j
          unfold outAt at hst
          rw [HGI.out, getD_get L j hjl, ← HB.out] at hst
          obtain ⟨y, hy⟩ : ∃ y, y = L[j] := ⟨_, rfl⟩
          rw [← hy] at hndj hrgj hcj hst
          have HP1 : Hid (∀ W, Kept wr W → Calls Tryz.prog 145 #[.agg #[.int .i64 (evW y), .slice ja jm jc], .agg #[.int .i64 x0, .slice ia im ic]] W fun e w' => e = .returned (.bool (subN y x)) ∧ Kept W w') := Lib.hid fun W hk => by
            rw [HX0.out]
            exact rrpart_any hcj _ _ W (hndj.kept hk) (HND.out.kept ((HK5.out.trans HKJ.out).trans hk))
          have HP2 : Hid (∀ W, Kept wr W → Calls Tryz.prog 145 #[.agg #[.int .i64 x0, .slice ia im ic], .agg #[.int .i64 (evW y), .slice ja jm jc]] W fun e w' => e = .returned (.bool (subN x y)) ∧ Kept W w') := Lib.hid fun W hk => by
            rw [HX0.out]
            exact rrpart_any HRL.out _ _ W (HND.out.kept ((HK5.out.trans HKJ.out).trans hk)) (hndj.kept hk)
          have HRGJ := Lib.hid hrgj
          clear hndj hrgj hcj hjm hy hbb
          generalize subN y x = p1 at *
          generalize subN x y = p2 at *
          generalize evW y = y0 at *
          by_cases hij : i = j
          · have b0 : ((i : Int) != (j : Int)) = false := by simp; omega
            rw [show decide (i ≠ j) = false by simpa using hij] at hst
            have HST : Hid (bb = keptTo L i (j + 1)) := Lib.hid (by rw [hst]; simp)
            clear hst hij HP1 HP2
            go_wp2_with (with_reducible refine wpList_load_mid rfl 118 _ rfl b (j * 2) rfl _ _ HRGJ.out Tryz.underlying118 rfl (by kernel_rfl) ?_)
            go_roundg (n - (j + 1))
            case measure => omega
            case rel => exact ⟨j + 1, bb, rfl, by go_num, by omega, Nat.le_refl _, HST, Lib.hid (HKJ.out.alloc _)⟩
          · have b0 : ((i : Int) != (j : Int)) = true := by simp; omega
            rw [show decide (i ≠ j) = true by simpa using hij] at hst
            have d0' := ((Kept.refl wr).alloc (.cells #[.int .i64 y0, .slice ja jm jc] 118)).cell d0
            have d1' := ((Kept.refl wr).alloc (.cells #[.int .i64 y0, .slice ja jm jc] 118)).cell d1
            cases p1 with
            | false =>
              have HST : Hid (bb = keptTo L i (j + 1)) := Lib.hid (by rw [hst]; simp)
              clear hst hij HP2
              go_wp2_with (first | (with_reducible refine wpList_load_mid rfl 118 _ rfl b (j * 2) rfl _ _ HRGJ.out Tryz.underlying118 rfl (by kernel_rfl) ?_) | (go_at_call 145; (with_reducible refine (HP1.out _ ((Kept.refl wr).alloc _)).mono ?_); rintro e w4 ⟨rfl, hk4⟩))
              go_roundg (n - (j + 1))
              case measure => omega
              case rel => exact ⟨j + 1, bb, rfl, by go_num, by omega, Nat.le_refl _, HST, Lib.hid ((HKJ.out.alloc _).trans hk4)⟩
            | true =>
              cases p2 with
              | false =>
                have HST : Hid (false = keptTo L i (j + 1)) := Lib.hid (by rw [hst]; simp)
                clear hst hij
                go_wp2_with (first | (with_reducible refine wpList_load_mid rfl 118 _ rfl b (j * 2) rfl _ _ HRGJ.out Tryz.underlying118 rfl (by kernel_rfl) ?_) | (go_at_call 145; (with_reducible refine (HP1.out _ ((Kept.refl wr).alloc _)).mono ?_); rintro e w4 ⟨rfl, hk4⟩; have HK4 := Lib.hid (((Kept.refl wr).alloc _).trans hk4); have g0 := hk4.cell d0'; have g1 := hk4.cell d1'; have h0 := hk4.cell (p := ⟨wr.heap.size, 0, none⟩) (v := .int .i64 y0) (by simp); have h1 := hk4.cell (p := ⟨wr.heap.size, 1, none⟩) (v := .slice ja jm jc) (by simp); clear hk4) | (go_at_call 145; (with_reducible refine (HP2.out _ HK4.out).mono ?_); rintro e w5 ⟨rfl, hk5⟩))
                go_roundg (n - (j + 1))
                case measure => omega
                case rel => exact ⟨j + 1, false, rfl, by go_num, by omega, Nat.le_refl _, HST, Lib.hid (HKJ.out.trans (HK4.out.trans hk5))⟩
              | true =>
                by_cases hji : j < i
                · have hji' : (j : Int) < (i : Int) := by omega
                  have HST : Hid (false = keptTo L i (j + 1)) := Lib.hid (by rw [hst]; simp [hji])
                  clear hst hij hji
                  go_wp2_with (first | (with_reducible refine wpList_load_mid rfl 118 _ rfl b (j * 2) rfl _ _ HRGJ.out Tryz.underlying118 rfl (by kernel_rfl) ?_) | (go_at_call 145; (with_reducible refine (HP1.out _ ((Kept.refl wr).alloc _)).mono ?_); rintro e w4 ⟨rfl, hk4⟩; have HK4 := Lib.hid (((Kept.refl wr).alloc _).trans hk4); have g0 := hk4.cell d0'; have g1 := hk4.cell d1'; have h0 := hk4.cell (p := ⟨wr.heap.size, 0, none⟩) (v := .int .i64 y0) (by simp); have h1 := hk4.cell (p := ⟨wr.heap.size, 1, none⟩) (v := .slice ja jm jc) (by simp); clear hk4) | (go_at_call 145; (with_reducible refine (HP2.out _ HK4.out).mono ?_); rintro e w5 ⟨rfl, hk5⟩))
                  go_roundg (n - (j + 1))
                  case measure => omega
                  case rel => exact ⟨j + 1, false, rfl, by go_num, by omega, Nat.le_refl _, HST, Lib.hid (HKJ.out.trans (HK4.out.trans hk5))⟩
                · have hji' : ¬ (j : Int) < (i : Int) := by omega
                  have HST : Hid (bb = keptTo L i (j + 1)) := Lib.hid (by rw [hst]; simp [hji])
                  clear hst hij hji
                  go_wp2_with (first | (with_reducible refine wpList_load_mid rfl 118 _ rfl b (j * 2) rfl _ _ HRGJ.out Tryz.underlying118 rfl (by kernel_rfl) ?_) | (go_at_call 145; (with_reducible refine (HP1.out _ ((Kept.refl wr).alloc _)).mono ?_); rintro e w4 ⟨rfl, hk4⟩; have HK4 := Lib.hid (((Kept.refl wr).alloc _).trans hk4); have g0 := hk4.cell d0'; have g1 := hk4.cell d1'; have h0 := hk4.cell (p := ⟨wr.heap.size, 0, none⟩) (v := .int .i64 y0) (by simp); have h1 := hk4.cell (p := ⟨wr.heap.size, 1, none⟩) (v := .slice ja jm jc) (by simp); clear hk4) | (go_at_call 145; (with_reducible refine (HP2.out _ HK4.out).mono ?_); rintro e w5 ⟨rfl, hk5⟩))
                  go_roundg (n - (j + 1))
                  case measure => omega
                  case rel => exact ⟨j + 1, bb, rfl, by go_num, by omega, Nat.le_refl _, HST, Lib.hid (HKJ.out.trans (HK4.out.trans hk5))⟩
        · have hjn : ¬ (j : Int) < (n : Int) := by omega
          have hsucc := refMinTo_succ L i
          have hkb : keptAt L i = bb := by
            rw [HB.out, show j = n by omega, HN.out]; rfl
          rw [hkb, HGI.out] at hsucc
          clear hkb
          cases bb with
          | false =>
            have HF : Hid (OwnRfs Z wr w.heap.size (.slice oa on oc) (refMinTo L (i + 1))) := Lib.hid (by rw [hsucc]; simpa using HO.out.kept (HK5.out.trans HKJ.out))
            clear hsucc
            go_wp2
            go_roundg (n - (i + 1))
            case measure => omega
            case rel => exact ⟨i + 1, _, rfl, by go_num, by omega, Nat.le_refl _, HF, Lib.hid (HK.out.trans (HK5.out.trans HKJ.out))⟩
          | true =>
            have hlen := refMinTo_len L i
            have HSU := Lib.hid hsucc
            have hszj := (HK5.out.trans HKJ.out).size
            clear hsucc
            go_wp2_with (at_builtin; refine app_rf rfl _ _ rfl w.heap.size _ (refMinTo L i) rfl (HO.out.kept ((HK5.out.trans HKJ.out).alloc _)) wr.heap.size x (.slice ia im ic) rfl (two_range (by rw [← HX0.out]; simp) (by simp)) (HND.out.kept ((HK5.out.trans HKJ.out).alloc _)) HRL.out (by omega) (by simp; omega) ?_; intro v7 w7 hown7 hb7; have O7 := Lib.hid hown7; have HB7 := Lib.hid hb7; clear hown7 hb7)
            go_roundg (n - (i + 1))
            case measure => omega
            case rel => exact ⟨i + 1, _, rfl, by go_num, by omega, Nat.le_refl _, Lib.hid (by rw [HSU.out]; exact O7.out), Lib.hid (((HK.out.trans (HK5.out.trans HKJ.out)).alloc _).app HB7.out)⟩
    · have hin : ¬ (i : Int) < (n : Int) := by omega
      have HF : Hid (OwnRfs Z wo w.heap.size (.slice oa on oc) (refMin L)) := Lib.hid (by have h := HO.out; rw [show i = n by omega, HN.out] at h; exact h)
      go_wp2
      go_ret
      exact ⟨⟨_, rfl, HF.out⟩, HK.out⟩
end Go.Proofs.YtngbjdaaogbjmaaGreat
