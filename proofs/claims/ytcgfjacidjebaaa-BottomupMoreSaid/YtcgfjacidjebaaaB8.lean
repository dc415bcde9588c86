/-
  Walks: family.sized, Plus, Product.
-/
import Derived.Test.YtcgfjacidjebaaaB7
namespace Go.Proofs.Ytcgfjacidjebaaa
open Go.RowKit

theorem sized_ok (v : Value) (xs : List Int) (w : World) (hv : IntsAt w v xs) (h : xs.length ≤ 1024) : Calls Try.prog 77 #[v] w fun e w' => e = .returned (.tuple #[v, .nilIface]) ∧ w = w' := by
  obtain ⟨a, c, rfl, ⟨hc, _⟩, hl, hrow⟩ := hv
  obtain ⟨n, hn⟩ : ∃ n, n = xs.length := ⟨_, rfl⟩
  rw [← hn] at h ⊢
  clear hrow hn hl hc
  go_enter Try.func77, Try.ntmps77
  go_wp2
  go_ret2
  exact ⟨rfl, rfl⟩
theorem sized_large (v : Value) (xs : List Int) (w : World) (hv : IntsAt w v xs) (h : ¬ xs.length ≤ 1024) : Calls Try.prog 77 #[v] w fun e w' => e = .returned (.tuple #[.slice none 0 0, errV 4]) ∧ w = w' := by
  obtain ⟨a, c, rfl, ⟨hc, _⟩, hl, hrow⟩ := hv
  obtain ⟨n, hn⟩ : ∃ n, n = xs.length := ⟨_, rfl⟩
  rw [← hn] at h ⊢
  clear hrow hn hl hc
  go_enter Try.func77, Try.ntmps77
  go_wp2
  go_ret2
  exact ⟨rfl, rfl⟩

theorem ofN_range {ns : List Nat} (h : ∀ n ∈ ns, Mk n) : ∀ x ∈ ofN ns, 0 ≤ x ∧ x ≤ 16777215 := by
  intro x hx
  obtain ⟨n, hn, rfl⟩ := List.mem_map.1 hx
  have := h n hn
  unfold Mk at this
  omega
/-- Sets in memory: masks. -/
def SetsAt (w : World) (v : Value) (ns : List Nat) : Prop := IntsAt w v (ofN ns) ∧ ∀ n ∈ ns, Mk n
theorem SetsAt.kept {w w' : World} {v : Value} {ns : List Nat} (h : SetsAt w v ns) (hk : Kept w w') : SetsAt w' v ns := ⟨h.1.kept hk, h.2⟩
def OwnSets (w : World) (B : Nat) (v : Value) (ns : List Nat) : Prop := OwnInts w B v (ofN ns) ∧ ∀ n ∈ ns, Mk n
theorem OwnSets.sets {w : World} {B : Nat} {v : Value} {ns : List Nat} (h : OwnSets w B v ns) : SetsAt w v ns := ⟨h.1.ints, h.2⟩
theorem OwnSets.kept {w w' : World} {B : Nat} {v : Value} {ns : List Nat} (h : OwnSets w B v ns) (hk : Kept w w') : OwnSets w' B v ns := ⟨h.1.kept hk, h.2⟩
theorem OwnSets.mono {w : World} {B B' : Nat} {v : Value} {ns : List Nat} (h : OwnSets w B v ns) (hb : B' ≤ B) : OwnSets w B' v ns := ⟨h.1.mono hb, h.2⟩
theorem OwnSets.nil (w : World) (B : Nat) : OwnSets w B (.slice none 0 0) [] := ⟨OwnInts.nil _ _, by simp⟩
theorem minK_mk {ns : List Nat} (h : ∀ n ∈ ns, Mk n) : ∀ n ∈ minK ns, Mk n := fun n hn => h n (mem_minK hn)
theorem minimalS_any (v : Value) (ns : List Nat) (w : World) (hv : SetsAt w v ns) (hl : ns.length ≤ 8796093022208) :
    Calls Try.prog 62 #[v] w fun e w' => ∃ v', e = .returned v' ∧ OwnSets w' w.heap.size v' (minK ns) ∧ Kept w w' :=
  (minimalK_any v ns w hv.2 hv.1 hl).mono fun _ _ ⟨v', h1, h2, h3⟩ => ⟨v', h1, ⟨h2, minK_mk hv.2⟩, h3⟩

theorem lists2 (a b : List Nat) (va vb : Value) (w : World) (ha : SetsAt w va a) (hb : SetsAt w vb b) :
    Calls Try.prog 60 #[.slice (some ⟨w.heap.size, 0, none⟩) 2 2] (w.alloc (.cells #[va, vb] 27)) fun e w' => e = .returned (errV (if a.length ≤ 1024 ∧ b.length ≤ 1024 then 0 else 4)) ∧ Kept w w' := by
  refine (lists_any _ [ofN a, ofN b] _ (rows_two ha.1 hb.1) ?_).mono fun e w' ⟨h1, h2⟩ => ⟨?_, ((Kept.refl _).alloc _).trans h2⟩
  · intro xs hxs
    simp at hxs
    rcases hxs with rfl | rfl
    · exact ofN_range ha.2
    · exact ofN_range hb.2
  · rw [h1]; congr 2
    unfold listsC
    simp
theorem lists1 (a : List Nat) (va : Value) (w : World) (ha : SetsAt w va a) :
    Calls Try.prog 60 #[.slice (some ⟨w.heap.size, 0, none⟩) 1 1] (w.alloc (.cells #[va] 27)) fun e w' => e = .returned (errV (if a.length ≤ 1024 then 0 else 4)) ∧ Kept w w' := by
  refine (lists_any _ [ofN a] _ (rows_one ha.1) ?_).mono fun e w' ⟨h1, h2⟩ => ⟨?_, ((Kept.refl _).alloc _).trans h2⟩
  · intro xs hxs
    simp at hxs
    subst hxs
    exact ofN_range ha.2
  · rw [h1]; congr 2
    unfold listsC
    simp

/-- A list of sets, or the error that it is too large. -/
def LRes (w' : World) (B : Nat) (e : Ending) (r : Option (List Nat)) : Prop :=
  match r with
  | some l => ∃ v, e = .returned (.tuple #[v, .nilIface]) ∧ OwnSets w' B v l
  | none => e = .returned (.tuple #[.slice none 0 0, errV 4])
def plusK (a b : List Nat) : Option (List Nat) := if a.length ≤ 1024 ∧ b.length ≤ 1024 then (if (minK (a ++ b)).length ≤ 1024 then some (minK (a ++ b)) else none) else none

set_option maxHeartbeats 1000000 in
theorem plus_any (a b : List Nat) (va vb : Value) (w : World) (ha : SetsAt w va a) (hb : SetsAt w vb b) :
    Calls Try.prog 45 #[va, vb] w fun e w' => LRes w' w.heap.size e (plusK a b) ∧ Kept w w' := by
  obtain ⟨aa, na, ca, rfl⟩ := ha.1.shape
  obtain ⟨ab, nb, cb, rfl⟩ := hb.1.shape
  have H1 := Lib.hid (fun w' (hk : Kept w w') => lists2 a b _ _ w' (ha.kept hk) (hb.kept hk))
  have HA := Lib.hid ha
  have HB := Lib.hid hb
  clear ha hb
  unfold plusK
  by_cases h : a.length ≤ 1024 ∧ b.length ≤ 1024
  · have hflat : ([ofN a, ofN b] : List (List Int)).flatten = ofN (a ++ b) := by simp
    have hfl : ([ofN a, ofN b] : List (List Int)).flatten.length ≤ 17592186044416 := by rw [hflat]; simp; omega
    have habl : (a ++ b).length ≤ 8796093022208 := by simp; omega
    have HF := Lib.hid hflat
    have HFL := Lib.hid hfl
    have HAB := Lib.hid habl
    have E0 := Lib.hid (show errV (if a.length ≤ 1024 ∧ b.length ≤ 1024 then 0 else 4) = .nilIface by rw [if_pos h]; rfl)
    rw [if_pos h]
    clear hflat hfl habl h
    by_cases hm : (minK (a ++ b)).length ≤ 1024
    · have HM := Lib.hid (show (ofN (minK (a ++ b))).length ≤ 1024 by simpa using hm)
      rw [if_pos hm]
      clear hm
      go_enter Try.func45, Try.ntmps45
      go_wp2_with (first
        | (go_at_call 60; refine (H1.out _ (Kept.refl _)).mono ?_; rintro e w1 ⟨rfl, hk1⟩; rw [E0.out])
        | (go_at_call 78; refine (concat_any _ [ofN a, ofN b] _ (rows_two (HA.out.kept hk1).1 (HB.out.kept hk1).1) HFL.out).mono ?_; rintro e w2 ⟨v2, rfl, ho2, hk2⟩; rw [HF.out] at ho2; have O2 := Lib.hid ho2; clear ho2)
        | (go_at_call 62; refine (minimalS_any v2 (a ++ b) w2 ⟨O2.out.ints, fun n hn => (List.mem_append.1 hn).elim (HA.out.2 n) (HB.out.2 n)⟩ HAB.out).mono ?_; rintro e w3 ⟨v3, rfl, ho3, hk3⟩; have O3 := Lib.hid ho3; clear ho3)
        | (go_at_call 77; refine (sized_ok v3 _ w3 O3.out.1.ints HM.out).mono ?_; rintro e w4 ⟨rfl, rfl⟩))
      go_ret2
      have hk := ((hk1.trans ((Kept.refl _).alloc _)).trans hk2)
      exact ⟨⟨_, rfl, O3.out.mono hk.size⟩, hk.trans hk3⟩
    · have HM := Lib.hid (show ¬ (ofN (minK (a ++ b))).length ≤ 1024 by simpa using hm)
      rw [if_neg hm]
      clear hm
      go_enter Try.func45, Try.ntmps45
      go_wp2_with (first
        | (go_at_call 60; refine (H1.out _ (Kept.refl _)).mono ?_; rintro e w1 ⟨rfl, hk1⟩; rw [E0.out])
        | (go_at_call 78; refine (concat_any _ [ofN a, ofN b] _ (rows_two (HA.out.kept hk1).1 (HB.out.kept hk1).1) HFL.out).mono ?_; rintro e w2 ⟨v2, rfl, ho2, hk2⟩; rw [HF.out] at ho2; have O2 := Lib.hid ho2; clear ho2)
        | (go_at_call 62; refine (minimalS_any v2 (a ++ b) w2 ⟨O2.out.ints, fun n hn => (List.mem_append.1 hn).elim (HA.out.2 n) (HB.out.2 n)⟩ HAB.out).mono ?_; rintro e w3 ⟨v3, rfl, ho3, hk3⟩; have O3 := Lib.hid ho3; clear ho3)
        | (go_at_call 77; refine (sized_large v3 _ w3 O3.out.1.ints HM.out).mono ?_; rintro e w4 ⟨rfl, rfl⟩))
      go_ret2
      have hk := ((hk1.trans ((Kept.refl _).alloc _)).trans hk2)
      exact ⟨rfl, hk.trans hk3⟩
  · have E0 := Lib.hid (show errV (if a.length ≤ 1024 ∧ b.length ≤ 1024 then 0 else 4) = .iface 45 (.int .i64 4) by rw [if_neg h]; rfl)
    rw [if_neg h]
    clear h
    go_enter Try.func45, Try.ntmps45
    go_wp2_with (go_at_call 60; refine (H1.out _ (Kept.refl _)).mono ?_; rintro e w1 ⟨rfl, hk1⟩; rw [E0.out])
    go_ret2
    exact ⟨rfl, hk1⟩
end Go.Proofs.Ytcgfjacidjebaaa
