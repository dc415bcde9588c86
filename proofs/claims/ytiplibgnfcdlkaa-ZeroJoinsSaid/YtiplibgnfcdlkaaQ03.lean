import Derived.Test.YtiplibgnfcdlkaaQ01
/-
  Walks: faultlinebase.Num, Ints, Rows.
-/
namespace Go.Proofs.Ytiplibgnfcdlkaa
open Go.RowKit

theorem as_errno (v : Value) (w : World) : (Instr.typeAssert (.iface 56 v) 29 56 true).run Try.prog w = .ok (.tuple #[v, .bool true]) w := by kernel_rfl
set_option maxRecDepth 100000 in
theorem num_eq (c : Nat) (w : World) (hc : c ≤ 9223372036854775807) : Calls Try.prog 13 #[errV c] w fun e w' => e = .returned (.int .i64 c) ∧ w = w' := by
  by_cases h : c = 0
  · subst h
    rw [errV_zero]
    go_enter Try.func13, Try.ntmps13
    go_wp2
    refine bodyPost_ret (v := .int .i64 0) ?_ rfl ⟨rfl, rfl⟩
    simp [results, Try.results13, go_sem]
  · rw [errV_pos h]
    clear h
    go_enter Try.func13, Try.ntmps13
    go_wp2
    rw [as_errno]
    go_wp2
    go_ret
    exact ⟨rfl, rfl⟩
theorem num_ok (c : Nat) (w : World) (hc : c ≤ 9223372036854775807) : Calls Try.prog 13 #[errV c] w fun e w' => e = .returned (.int .i64 c) ∧ Kept w w' :=
  (num_eq c w hc).mono fun _ _ ⟨h1, h2⟩ => ⟨h1, by rw [← h2]; exact Kept.refl _⟩

theorem ints_ne (a b : List Int) (va vb : Value) (w : World) (ha : IntsAt w va a) (hb : IntsAt w vb b) (h : a.length ≠ b.length) :
    Calls Try.prog 27 #[va, vb] w fun e w' => e = .returned (.bool false) ∧ Kept w w' := by
  obtain ⟨aa, ca, rfl, _, hla, hca⟩ := ha
  obtain ⟨ab, cb, rfl, _, hlb, hcb⟩ := hb
  have hne : ((a.length : Int) == (b.length : Int)) = false := by simpa using (by omega : (a.length : Int) ≠ b.length)
  clear h hca hcb
  go_enter Try.func27, Try.ntmps27
  go_wp2
  go_ret
  exact ⟨rfl, Kept.refl _⟩
set_option maxHeartbeats 2000000 in
theorem ints_at (a b : List Int) (va vb : Value) (w : World) (ha : IntsAt w va a) (hb : IntsAt w vb b) :
    Calls Try.prog 27 #[va, vb] w fun e w' => e = .returned (.bool (decide (a = b))) ∧ Kept w w' := by
  by_cases h : a.length = b.length
  case neg =>
    refine (ints_ne a b va vb w ha hb h).mono ?_
    rintro e w' ⟨rfl, h2⟩
    refine ⟨?_, h2⟩
    have : a ≠ b := fun e => h (by rw [e])
    simp [this]
  obtain ⟨aa, ca, rfl, _, hla, hca⟩ := ha
  obtain ⟨ab, cb, rfl, _, hlb, hcb⟩ := hb
  obtain ⟨n, hn⟩ : ∃ n, n = a.length := ⟨_, rfl⟩
  have hnb : n = b.length := by omega
  rw [← hnb, ← hn]
  have HA := Lib.hid hca
  have HB := Lib.hid hcb
  have Hn := Lib.hid hn
  have Hnb := Lib.hid hnb
  have hn9 : n ≤ 140737488355328 := by omega
  clear hca hcb h hn hnb hla hlb
  go_enter Try.func27, Try.ntmps27
  go_wp2
  go_loopw [5, 13] (fun _ i wr => ∃ k : Nat, k ≤ n ∧ i = .int .i64 k ∧ (∀ j, j < k → a[j]? = b[j]?) ∧ Kept w wr) (fun _ i _ => n - (intOf i).toNat)
  case atStart => exact ⟨0, Nat.zero_le _, rfl, by simp, Kept.refl _⟩
  case round =>
    obtain ⟨k, hk, rfl, hsame, hbel⟩ := hrel
    have HS := Lib.hid hsame
    clear hsame
    by_cases hlt : k < n
    · have hka : k < a.length := by have := Hn.out; omega
      have hkb : k < b.length := by have := Hnb.out; omega
      obtain ⟨ba, oa, rfl, c1⟩ := HA.out k hka
      obtain ⟨bb, ob, rfl, c2⟩ := HB.out k hkb
      have c1' := hbel.cell c1
      have c2' := hbel.cell c2
      obtain ⟨x, hx⟩ : ∃ x, x = a[k] := ⟨_, rfl⟩
      obtain ⟨y, hy⟩ : ∃ x, x = b[k] := ⟨_, rfl⟩
      rw [← hx] at c1 c1'
      rw [← hy] at c2 c2'
      have HX := Lib.hid hx
      have HY := Lib.hid hy
      have HKA := Lib.hid hka
      have HKB := Lib.hid hkb
      clear hx hy c1 c2
      by_cases hxy : x = y
      · have e1 : (x == y) = true := by simpa using hxy
        have e2 : (x != y) = false := by simpa using hxy
        have HXY := Lib.hid hxy
        clear hxy
        go_wp2
        go_quiet (fail)
        go_wp2
        go_roundw
        case rel =>
          refine ⟨k + 1, by omega, by simp, fun j hj => ?_, hbel.drewN _⟩
          by_cases e : j = k
          · subst e
            rw [List.getElem?_eq_getElem HKA.out, List.getElem?_eq_getElem HKB.out, ← HX.out, ← HY.out, HXY.out]
          · exact HS.out j (by omega)
        case measure => simp [intOf]; omega
      · have e1 : (x == y) = false := by simpa using hxy
        have e2 : (x != y) = true := by simpa using hxy
        have HXY := Lib.hid hxy
        clear hxy
        go_wp2
        go_quiet (fail)
        go_wp2
        go_ret
        refine ⟨?_, hbel.drewN _⟩
        have : a ≠ b := by
          intro e
          subst e
          exact HXY.out (HX.out.trans HY.out.symm)
        simp [this]
    · go_wp2
      go_ret
      refine ⟨?_, hbel⟩
      have hkn : k = n := by omega
      have : a = b := by
        apply List.ext_getElem?
        intro j
        by_cases hj : j < k
        · exact HS.out j hj
        · rw [List.getElem?_eq_none (by have := Hn.out; omega), List.getElem?_eq_none (by have := Hnb.out; omega)]
      simp [this]
end Go.Proofs.Ytiplibgnfcdlkaa
