/-
  Walks: faultlinebase.Rows.
-/
import Derived.Test.YtcgfjacidjebaaaF1
import Derived.Deep.RegionHeld3
namespace Go.Proofs.Ytcgfjacidjebaaa
open Go.RowKit

theorem rows_ne (a b : List (List Int)) (va vb : Value) (w : World) (ha : RowsAt IntsAt w va a) (hb : RowsAt IntsAt w vb b) (h : a.length ≠ b.length) :
    Calls Try.prog 25 #[va, vb] w fun e w' => e = .returned (.bool false) ∧ Kept w w' := by
  obtain ⟨aa, ca, rfl, _, hla, hca⟩ := ha
  obtain ⟨ab, cb, rfl, _, hlb, hcb⟩ := hb
  have hne : ((a.length : Int) == (b.length : Int)) = false := by simpa using (by omega : (a.length : Int) ≠ b.length)
  clear h hca hcb
  go_enter Try.func25, Try.ntmps25
  go_wp2
  go_ret
  exact ⟨rfl, Kept.refl _⟩
set_option maxHeartbeats 2000000 in
theorem rows_eq (a b : List (List Int)) (va vb : Value) (w : World) (ha : RowsAt IntsAt w va a) (hb : RowsAt IntsAt w vb b) :
    Calls Try.prog 25 #[va, vb] w fun e w' => e = .returned (.bool (decide (a = b))) ∧ Kept w w' := by
  by_cases h : a.length = b.length
  case neg =>
    refine (rows_ne a b va vb w ha hb h).mono ?_
    rintro e w' ⟨rfl, h2⟩
    refine ⟨?_, h2⟩
    have : a ≠ b := fun e => h (by rw [e])
    simp [this]
  obtain ⟨aa, ca, rfl, _, hla, hca⟩ := ha
  obtain ⟨ab, cb, rfl, _, hlb, hcb⟩ := hb
  obtain ⟨n, hn⟩ : ∃ n, n = a.length := ⟨_, rfl⟩
  have hnb : n = b.length := by omega
  rw [← hnb, ← hn]
  have HA := Lib.hid hca
  have HB := Lib.hid hcb
  have Hn := Lib.hid hn
  have Hnb := Lib.hid hnb
  have hn9 : n ≤ 140737488355328 := by omega
  clear hca hcb h hn hnb hla hlb
  go_enter Try.func25, Try.ntmps25
  go_wp2
  go_loopw [5, 13] (fun _ i wr => ∃ k : Nat, k ≤ n ∧ i = .int .i64 k ∧ (∀ j, j < k → a[j]? = b[j]?) ∧ Kept w wr) (fun _ i _ => n - (intOf i).toNat)
  case atStart => exact ⟨0, Nat.zero_le _, rfl, by simp, Kept.refl _⟩
  case round =>
    obtain ⟨k, hk, rfl, hsame, hbel⟩ := hrel
    have HS := Lib.hid hsame
    clear hsame
    by_cases hlt : k < n
    · have hka : k < a.length := by have := Hn.out; omega
      have hkb : k < b.length := by have := Hnb.out; omega
      obtain ⟨ba, oa, ua, rfl, c1, i1⟩ := HA.out k hka
      obtain ⟨bb, ob, ub, rfl, c2, i2⟩ := HB.out k hkb
      have c1' := hbel.cell c1
      have c2' := hbel.cell c2
      obtain ⟨x, hx⟩ : ∃ x, x = a[k] := ⟨_, rfl⟩
      obtain ⟨y, hy⟩ : ∃ x, x = b[k] := ⟨_, rfl⟩
      rw [← hx] at i1
      rw [← hy] at i2
      have j1 := Lib.hid (i1.kept hbel)
      have j2 := Lib.hid (i2.kept hbel)
      have HX := Lib.hid hx
      have HY := Lib.hid hy
      have HKA := Lib.hid hka
      have HKB := Lib.hid hkb
      clear hx hy c1 c2 i1 i2
      by_cases hxy : x = y
      · have HC : Hid (∀ W, Kept wr W → Calls Try.prog 22 #[ua, ub] W fun e w' => e = .returned (.bool true) ∧ Kept W w') := Lib.hid fun W hW => by
          have := ints_at x y ua ub W (j1.out.kept hW) (j2.out.kept hW)
          rw [decide_eq_true hxy] at this
          exact this
        have HXY := Lib.hid hxy
        clear hxy
        go_wp2
        go_region_held3 (fun w' => w'.cell? ⟨ba, oa + k, none⟩ = some ua ∧ w'.cell? ⟨bb, ob + k, none⟩ = some ub)
          (first | go_keep | exact ⟨hk5.cell c1', hk5.cell c2'⟩)
          (first | (go_at_call 22; refine (HC.out _ (Kept.refl _).drew).mono ?_; rintro e w5 ⟨rfl, hk5⟩))
        go_wp2
        go_roundw
        case rel =>
          refine ⟨k + 1, by omega, by simp, fun j hj => ?_, hbel.trans ((Kept.refl _).drew.trans hk5)⟩
          by_cases e : j = k
          · subst e
            rw [List.getElem?_eq_getElem HKA.out, List.getElem?_eq_getElem HKB.out, ← HX.out, ← HY.out, HXY.out]
          · exact HS.out j (by omega)
        case measure => simp [intOf]; omega
      · have HC : Hid (∀ W, Kept wr W → Calls Try.prog 22 #[ua, ub] W fun e w' => e = .returned (.bool false) ∧ Kept W w') := Lib.hid fun W hW => by
          have := ints_at x y ua ub W (j1.out.kept hW) (j2.out.kept hW)
          rw [decide_eq_false hxy] at this
          exact this
        have HXY := Lib.hid hxy
        clear hxy
        go_wp2
        go_region_held3 (fun w' => w'.cell? ⟨ba, oa + k, none⟩ = some ua ∧ w'.cell? ⟨bb, ob + k, none⟩ = some ub)
          (first | go_keep | exact ⟨hk5.cell c1', hk5.cell c2'⟩)
          (first | (go_at_call 22; refine (HC.out _ (Kept.refl _).drew).mono ?_; rintro e w5 ⟨rfl, hk5⟩))
        go_wp2
        go_ret
        refine ⟨?_, hbel.trans ((Kept.refl _).drew.trans hk5)⟩
        have : a ≠ b := by
          intro e
          subst e
          exact HXY.out (HX.out.trans HY.out.symm)
        simp [this]
    · go_wp2
      go_ret
      refine ⟨?_, hbel⟩
      have hkn : k = n := by omega
      have : a = b := by
        apply List.ext_getElem?
        intro j
        by_cases hj : j < k
        · exact HS.out j hj
        · rw [List.getElem?_eq_none (by have := Hn.out; omega), List.getElem?_eq_none (by have := Hnb.out; omega)]
      simp [this]
end Go.Proofs.Ytcgfjacidjebaaa
