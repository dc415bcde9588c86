import Derived.Test.YtngbjdaaogbjmaaGreatK2
import Derived.Deep.RegionHeld3
import Derived.Deep.DeepCutAuto
import Derived.Test.YtngbjdaaogbjmaaGreatK4
/-
  Walks: faultlineref05.Valid, Cut, Count, Compare.
-/
namespace Go.Proofs.YtngbjdaaogbjmaaGreat
open Go.RowKit

theorem and_pred (n : Nat) : 0 < n → n &&& (n - 1) < n ∧ pc n = pc (n &&& (n - 1)) + 1 := by
  induction n using Nat.strongRecOn with
  | ind n ih =>
    intro h0
    have bits : ∀ a b : Nat, a = b ↔ a % 2 = b % 2 ∧ a / 2 = b / 2 := fun a b => by omega
    by_cases h : n % 2 = 1
    · have e : n &&& (n - 1) = n - 1 := by
        rw [bits]
        have e1 : (n &&& (n - 1)) % 2 = 0 := by
          rw [show (2 : Nat) = 2 ^ 1 from rfl, Nat.and_mod_two_pow, show (n - 1) % 2 ^ 1 = 0 by omega]; simp
        have e2 : (n &&& (n - 1)) / 2 = n / 2 := by
          rw [show (2 : Nat) = 2 ^ 1 from rfl, Nat.and_div_two_pow, show (n - 1) / 2 ^ 1 = n / 2 ^ 1 by omega, Nat.and_self]
        omega
      rw [e]
      refine ⟨by omega, ?_⟩
      rw [pc_one n, pc_one (n - 1), show (n - 1) / 2 = n / 2 by omega]
      omega
    · have h2 := ih (n / 2) (by omega) (by omega)
      have e1 : (n &&& (n - 1)) % 2 = 0 := by
        rw [show (2 : Nat) = 2 ^ 1 from rfl, Nat.and_mod_two_pow, show n % 2 ^ 1 = 0 by omega]; simp
      have e2 : (n &&& (n - 1)) / 2 = n / 2 &&& (n / 2 - 1) := by
        rw [show (2 : Nat) = 2 ^ 1 from rfl, Nat.and_div_two_pow, show (n - 1) / 2 ^ 1 = n / 2 ^ 1 - 1 by omega]
      refine ⟨by omega, ?_⟩
      rw [pc_one n, pc_one (n &&& (n - 1)), e1, e2]
      omega
theorem rcut_any {n : Nat} (h : Mk n) (w : World) : Calls Tryz.prog 187 #[.int .i64 n] w fun e w' => e = .returned (.int .i64 n) ∧ w = w' := by
  have hc := cut_mk h
  go_enter Tryz.func187, Tryz.ntmps187
  go_wp2
  go_ret
  exact ⟨rfl, rfl⟩
theorem rvalid_any (s : Int) (w : World) : Calls Tryz.prog 175 #[.int .i64 s] w fun e w' => e = .returned (.bool (decide (0 ≤ s ∧ s ≤ 16777215))) ∧ w = w' := by
  by_cases h : 0 ≤ s
  · by_cases h2 : s < 16777216
    all_goals
      go_enter Tryz.func175, Tryz.ntmps175
      go_wp2
      go_ret
      exact ⟨by congr 2; simp; omega, rfl⟩
  · go_enter Tryz.func175, Tryz.ntmps175
    go_wp2
    go_ret
    exact ⟨by congr 2; simp; omega, rfl⟩
theorem rcount_any {n : Nat} (h : Mk n) (w : World) : Calls Tryz.prog 144 #[.int .i64 n] w fun e w' => e = .returned (.int .i64 (pc n)) ∧ w = w' := by
  obtain ⟨r, hr⟩ : ∃ r, r = pc n := ⟨_, rfl⟩
  rw [← hr]
  have HR := Lib.hid hr
  have h' := h
  clear hr
  go_enter Tryz.func144, Tryz.ntmps144
  go_wp2_with (go_at_call 187; refine (rcut_any h' _).mono ?_; rintro e w' ⟨rfl, rfl⟩)
  go_loop [0, 3] (fun s k => ∃ m q : Nat, s = .int .i64 m ∧ k = .int .i64 q ∧ m < 16777216 ∧ q ≤ 16777216 - m ∧ Hid (pc m + q = r)) (fun s _ => (intOf s).toNat)
  case atStart => exact ⟨n, 0, rfl, rfl, h, by omega, Lib.hid (by rw [HR.out]; rfl)⟩
  case round =>
    obtain ⟨m, q, rfl, rfl, hm, hq, HI⟩ := hrel
    by_cases h0 : 0 < m
    · have hp := and_pred m h0
      have e1 : bits .and .i64 (m : Int) ((m : Int) - 1) = ((m &&& (m - 1) : Nat) : Int) := by
        rw [show (m : Int) - 1 = ((m - 1 : Nat) : Int) by omega]
        exact and_i64 _ _ (by omega) (by omega)
      have hne : ((m : Int) == 0) = false := by simp; omega
      have hne2 : ((m : Int) != 0) = true := by simp; omega
      have HP := Lib.hid hp
      clear hp
      go_wp2
      go_round
      case rel => exact ⟨m &&& (m - 1), q + 1, rfl, by go_num, by have := HP.out; omega, by have := HP.out; omega, Lib.hid (by have := HP.out; have := HI.out; omega)⟩
      case measure => have := HP.out; simp [intOf]; omega
    · obtain rfl : m = 0 := by omega
      go_wp2
      go_ret
      have hqr : q = r := by have := HI.out; rw [pc_zero] at this; omega
      exact ⟨by rw [hqr]; rfl, rfl⟩
def cmpR (a b : Nat) : Int := if a = b then 0 else if ltK a b then -1 else 1
set_option maxHeartbeats 1000000 in
theorem rcompare_any {a b : Nat} (ha : Mk a) (hb : Mk b) (w : World) : Calls Tryz.prog 147 #[.int .i64 a, .int .i64 b] w fun e w' => e = .returned (.int .i64 (cmpR a b)) ∧ w = w' := by
  obtain ⟨r, hr⟩ : ∃ r, r = cmpR a b := ⟨_, rfl⟩
  rw [← hr]
  obtain ⟨x, hx⟩ : ∃ x, x = pc a := ⟨_, rfl⟩
  obtain ⟨y, hy⟩ : ∃ x, x = pc b := ⟨_, rfl⟩
  have HR := Lib.hid hr
  have HA : Hid (∀ W, Calls Tryz.prog 144 #[.int .i64 a] W fun e w' => e = .returned (.int .i64 x) ∧ W = w') := Lib.hid (hx ▸ fun W => rcount_any ha W)
  have HB : Hid (∀ W, Calls Tryz.prog 144 #[.int .i64 b] W fun e w' => e = .returned (.int .i64 y) ∧ W = w') := Lib.hid (hy ▸ fun W => rcount_any hb W)
  have CA : Hid (∀ W, Calls Tryz.prog 187 #[.int .i64 a] W fun e w' => e = .returned (.int .i64 a) ∧ W = w') := Lib.hid fun W => rcut_any ha W
  have CB : Hid (∀ W, Calls Tryz.prog 187 #[.int .i64 b] W fun e w' => e = .returned (.int .i64 b) ∧ W = w') := Lib.hid fun W => rcut_any hb W
  have HX := Lib.hid hx
  have HY := Lib.hid hy
  clear hr hx hy ha hb
  by_cases e : a = b
  · have h0 : r = 0 := by rw [HR.out, cmpR, if_pos e]
    subst h0
    have ee : ((a : Int) == (b : Int)) = true := by simp; omega
    clear HX HY
    clear e
    go_enter Tryz.func147, Tryz.ntmps147
    go_wp2_with (first
      | (go_at_call_of 187 (Value.int .i64 (a : Int)); refine (CA.out _).mono ?_; rintro e w' ⟨rfl, rfl⟩)
      | (go_at_call_of 187 (Value.int .i64 (b : Int)); refine (CB.out _).mono ?_; rintro e w' ⟨rfl, rfl⟩))
    go_ret
    exact ⟨rfl, rfl⟩
  · have ee : ((a : Int) == (b : Int)) = false := by simp; omega
    have HE := Lib.hid e
    clear e
    by_cases h1 : x < y
    · have h0 : r = -1 := by rw [HR.out, cmpR, if_neg HE.out, if_pos (.inl (by rw [← HX.out, ← HY.out]; exact h1))]
      subst h0
      have h1' : (x : Int) < (y : Int) := by omega
      go_enter Tryz.func147, Tryz.ntmps147
      go_wp2_with (first
        | (go_at_call_of 187 (Value.int .i64 (a : Int)); refine (CA.out _).mono ?_; rintro e w' ⟨rfl, rfl⟩)
        | (go_at_call_of 187 (Value.int .i64 (b : Int)); refine (CB.out _).mono ?_; rintro e w' ⟨rfl, rfl⟩)
        | (go_at_call_of 144 (Value.int .i64 (a : Int)); refine (HA.out _).mono ?_; rintro e w' ⟨rfl, rfl⟩)
        | (go_at_call_of 144 (Value.int .i64 (b : Int)); refine (HB.out _).mono ?_; rintro e w' ⟨rfl, rfl⟩))
      go_ret
      exact ⟨rfl, rfl⟩
    · have h1' : ¬ (x : Int) < (y : Int) := by omega
      by_cases h2 : x = y
      · have h2' : ((x : Int) == (y : Int)) = true := by simp; omega
        by_cases h3 : a < b
        · have h0 : r = -1 := by rw [HR.out, cmpR, if_neg HE.out, if_pos (.inr ⟨by rw [← HX.out, ← HY.out]; exact h2, h3⟩)]
          subst h0
          have h3' : (a : Int) < (b : Int) := by omega
          clear HX HY h1
          clear h2
          go_enter Tryz.func147, Tryz.ntmps147
          go_wp2_with (first
            | (go_at_call_of 187 (Value.int .i64 (a : Int)); refine (CA.out _).mono ?_; rintro e w' ⟨rfl, rfl⟩)
            | (go_at_call_of 187 (Value.int .i64 (b : Int)); refine (CB.out _).mono ?_; rintro e w' ⟨rfl, rfl⟩)
            | (go_at_call_of 144 (Value.int .i64 (a : Int)); refine (HA.out _).mono ?_; rintro e w' ⟨rfl, rfl⟩)
            | (go_at_call_of 144 (Value.int .i64 (b : Int)); refine (HB.out _).mono ?_; rintro e w' ⟨rfl, rfl⟩))
          go_ret
          exact ⟨rfl, rfl⟩
        · have h0 : r = 1 := by
            rw [HR.out, cmpR, if_neg HE.out, if_neg]
            rintro (h | h)
            · rw [← HX.out, ← HY.out] at h; exact h1 h
            · exact h3 h.2
          subst h0
          have h3' : ¬ (a : Int) < (b : Int) := by omega
          clear HX HY h1
          clear h2
          go_enter Tryz.func147, Tryz.ntmps147
          go_wp2_with (first
            | (go_at_call_of 187 (Value.int .i64 (a : Int)); refine (CA.out _).mono ?_; rintro e w' ⟨rfl, rfl⟩)
            | (go_at_call_of 187 (Value.int .i64 (b : Int)); refine (CB.out _).mono ?_; rintro e w' ⟨rfl, rfl⟩)
            | (go_at_call_of 144 (Value.int .i64 (a : Int)); refine (HA.out _).mono ?_; rintro e w' ⟨rfl, rfl⟩)
            | (go_at_call_of 144 (Value.int .i64 (b : Int)); refine (HB.out _).mono ?_; rintro e w' ⟨rfl, rfl⟩))
          go_ret
          exact ⟨rfl, rfl⟩
      · have h2' : ((x : Int) == (y : Int)) = false := by simp; omega
        have h0 : r = 1 := by
          rw [HR.out, cmpR, if_neg HE.out, if_neg]
          rintro (h | h)
          · rw [← HX.out, ← HY.out] at h; exact h1 h
          · rw [← HX.out, ← HY.out] at h; exact h2 h.1
        subst h0
        clear HX HY h1
        clear h2
        go_enter Tryz.func147, Tryz.ntmps147
        go_wp2_with (first
          | (go_at_call_of 187 (Value.int .i64 (a : Int)); refine (CA.out _).mono ?_; rintro e w' ⟨rfl, rfl⟩)
          | (go_at_call_of 187 (Value.int .i64 (b : Int)); refine (CB.out _).mono ?_; rintro e w' ⟨rfl, rfl⟩)
          | (go_at_call_of 144 (Value.int .i64 (a : Int)); refine (HA.out _).mono ?_; rintro e w' ⟨rfl, rfl⟩)
          | (go_at_call_of 144 (Value.int .i64 (b : Int)); refine (HB.out _).mono ?_; rintro e w' ⟨rfl, rfl⟩))
        go_ret
        exact ⟨rfl, rfl⟩
end Go.Proofs.YtngbjdaaogbjmaaGreat

/-
  Walks: faultlineref05.Sort.
-/
namespace Go.Proofs.YtngbjdaaogbjmaaGreat
open Go.RowKit

theorem IntsAt.take {w : World} {a : Option Addr} {c : Nat} {xs : List Int} (h : IntsAt w (.slice a xs.length c) xs) (k : Nat) (hk : k ≤ xs.length) : IntsAt w (.slice a k c) (xs.take k) := by
  obtain ⟨a', c', h1, ⟨h0, hn⟩, h2, h3⟩ := h
  cases h1
  refine ⟨a, c, by simp [Nat.min_eq_left hk], ⟨by simp; omega, hn⟩, by simp; omega, fun i hi => ?_⟩
  simp only [List.length_take] at hi
  obtain ⟨b, o, h4, h5⟩ := h3 i (by omega)
  exact ⟨b, o, h4, by simpa using h5⟩
theorem IntsAt.drop {w : World} {b o c : Nat} {xs : List Int} (h : IntsAt w (.slice (some ⟨b, o, none⟩) xs.length c) xs) (k : Nat) (hk : k ≤ xs.length) : IntsAt w (.slice (some ⟨b, o + k, none⟩) (xs.length - k) (c - k)) (xs.drop k) := by
  obtain ⟨a', c', h1, ⟨h0, hn⟩, h2, h3⟩ := h
  cases h1
  refine ⟨some ⟨b, o + k, none⟩, c - k, by simp, ⟨by simp; omega, fun h => by cases h⟩, by simp; omega, fun i hi => ?_⟩
  simp only [List.length_drop] at hi
  obtain ⟨b', o', h4, h5⟩ := h3 (k + i) (by omega)
  cases h4
  exact ⟨b, o + k, rfl, by simpa [Nat.add_assoc] using h5⟩
theorem SetsAt.take {w : World} {a : Option Addr} {c : Nat} {ns : List Nat} (h : SetsAt w (.slice a ns.length c) ns) (k : Nat) (hk : k ≤ ns.length) : SetsAt w (.slice a k c) (ns.take k) := by
  refine ⟨?_, fun n hn => h.2 n (List.mem_of_mem_take hn)⟩
  have := IntsAt.take (xs := ofN ns) (by simpa using h.1) k (by simpa using hk)
  simpa [ofN, List.map_take] using this
theorem SetsAt.drop {w : World} {b o c : Nat} {ns : List Nat} (h : SetsAt w (.slice (some ⟨b, o, none⟩) ns.length c) ns) (k : Nat) (hk : k ≤ ns.length) : SetsAt w (.slice (some ⟨b, o + k, none⟩) (ns.length - k) (c - k)) (ns.drop k) := by
  refine ⟨?_, fun n hn => h.2 n (List.mem_of_mem_drop hn)⟩
  have := IntsAt.drop (xs := ofN ns) (by simpa using h.1) k (by simpa using hk)
  simpa [ofN, List.map_drop] using this
theorem SetsAt.shape {w : World} {v : Value} {ns : List Nat} (h : SetsAt w v ns) : ∃ a c, v = .slice a ns.length c ∧ ns.length ≤ c ∧ (ns ≠ [] → ∃ b o, a = some ⟨b, o, none⟩) := by
  obtain ⟨⟨a, c, h1, ⟨h0, _⟩, _, h3⟩, _⟩ := h
  refine ⟨a, c, by simpa using h1, by simpa using h0, fun hne => ?_⟩
  have : 0 < (ofN ns).length := by simpa using List.length_pos_iff.2 hne
  obtain ⟨b, o, h4, _⟩ := h3 0 this
  exact ⟨b, o, h4⟩

def lenV : Value → Nat | .slice _ n _ => n | _ => 0
/-- What a merge has taken, and what is left. -/
structure MInv (ns zs xs ys : List Nat) : Prop where
  left : (zs ++ xs).Pairwise ltK
  right : (zs ++ ys).Pairwise ltK
  mem : ∀ z, z ∈ ns ↔ z ∈ zs ∨ z ∈ xs ∨ z ∈ ys
  len : zs.length + xs.length + ys.length ≤ ns.length
theorem MInv.start (ns : List Nat) (h : Nat) : MInv ns [] (sortK (ns.take h)) (sortK (ns.drop h)) := by
  refine ⟨by simpa using pair_sortK _, by simpa using pair_sortK _, fun z => ?_, ?_⟩
  · rw [mem_sortK, mem_sortK]
    have := List.mem_append (a := z) (s := ns.take h) (t := ns.drop h)
    rw [List.take_append_drop] at this
    simpa using this
  · have h1 := len_sortK (ns.take h)
    have h2 := len_sortK (ns.drop h)
    simp at h1 h2 ⊢
    omega
theorem MInv.eq {ns zs xs ys : List Nat} {x : Nat} (h : MInv ns zs (x :: xs) (x :: ys)) : MInv ns (zs ++ [x]) xs ys :=
  ⟨by simpa using h.left, by simpa using h.right, fun z => by rw [h.mem]; simp only [List.mem_append, List.mem_cons, List.not_mem_nil]; grind, by have := h.len; simp at this ⊢; omega⟩
theorem MInv.lt {ns zs xs ys : List Nat} {x y : Nat} (h : MInv ns zs (x :: xs) (y :: ys)) (hl : ltK x y) : MInv ns (zs ++ [x]) xs (y :: ys) := by
  refine ⟨by simpa using h.left, ?_, fun z => by rw [h.mem]; simp only [List.mem_append, List.mem_cons, List.not_mem_nil]; grind, by have := h.len; simp at this ⊢; omega⟩
  have h1 := List.pairwise_append.1 h.left
  have h2 := List.pairwise_append.1 h.right
  rw [List.pairwise_append]
  refine ⟨?_, h2.2.1, ?_⟩
  · rw [List.pairwise_append]; exact ⟨h1.1, by simp, fun a ha b hb => by simp at hb; subst hb; exact h1.2.2 a ha b (List.mem_cons_self ..)⟩
  · intro a ha b hb
    rcases List.mem_append.1 ha with ha | ha
    · exact h2.2.2 a ha b hb
    · simp at ha; subst ha
      rcases List.mem_cons.1 hb with e | e
      · rw [e]; exact hl
      · exact ltK_tr _ _ _ hl ((List.pairwise_cons.1 h2.2.1).1 b e)
theorem MInv.symm {ns zs xs ys : List Nat} (h : MInv ns zs xs ys) : MInv ns zs ys xs :=
  ⟨h.right, h.left, fun z => by rw [h.mem]; constructor <;> (intro h; rcases h with h | h | h <;> simp_all), by have := h.len; omega⟩
theorem MInv.gt {ns zs xs ys : List Nat} {x y : Nat} (h : MInv ns zs (x :: xs) (y :: ys)) (hl : ltK y x) : MInv ns (zs ++ [y]) (x :: xs) ys := (h.symm.lt hl).symm
theorem MInv.doneL {ns zs ys : List Nat} (h : MInv ns zs [] ys) : zs ++ [] ++ ys = sortK ns := by
  rw [List.append_nil]
  exact sortK_unique ns _ h.right fun x => by rw [h.mem]; simp
theorem MInv.doneR {ns zs xs : List Nat} (h : MInv ns zs xs []) : zs ++ xs ++ [] = sortK ns := by
  rw [List.append_nil]
  exact sortK_unique ns _ h.left fun x => by rw [h.mem]; simp
theorem MInv.masks {ns zs xs ys : List Nat} (h : MInv ns zs xs ys) (hm : ∀ n ∈ ns, Mk n) : (∀ n ∈ zs, Mk n) ∧ (∀ n ∈ xs, Mk n) ∧ ∀ n ∈ ys, Mk n :=
  ⟨fun n hn => hm n ((h.mem n).2 (.inl hn)), fun n hn => hm n ((h.mem n).2 (.inr (.inl hn))), fun n hn => hm n ((h.mem n).2 (.inr (.inr hn)))⟩
/-- l[1:] of a list with a head. -/
abbrev restV (b o n c : Nat) : Value := .slice (if c = 1 then some ⟨b, o, none⟩ else some ⟨b, o + 1, none⟩) n (c - 1)
theorem SetsAt.rest {w : World} {b o c : Nat} {x : Nat} {xs : List Nat} (h : SetsAt w (.slice (some ⟨b, o, none⟩) (xs.length + 1) c) (x :: xs)) : SetsAt w (restV b o xs.length c) xs := by
  have h1 := SetsAt.drop (ns := x :: xs) h 1 (by simp)
  unfold restV
  obtain ⟨a', c', h2, h3, _⟩ := h.shape
  cases h2
  by_cases hc : c = 1
  · rw [if_pos hc]
    have : xs = [] := List.eq_nil_of_length_eq_zero (by simp at h3; omega)
    subst this
    subst hc
    exact ⟨⟨_, 0, rfl, ⟨by simp, fun h => by cases h⟩, by simp, fun i hi => by simp at hi⟩, by simp⟩
  · rw [if_neg hc]
    simpa using h1
theorem SetsAt.head {w : World} {b o c m : Nat} {x : Nat} {xs : List Nat} (h : SetsAt w (.slice (some ⟨b, o, none⟩) m c) (x :: xs)) : w.cell? ⟨b, o, none⟩ = some (.int .i64 x) := by
  obtain ⟨⟨a', c', h2, _, _, h3⟩, _⟩ := h
  obtain ⟨b', o', h4, h5⟩ := h3 0 (by simp)
  cases h2
  cases h4
  simpa using h5
theorem sorted_small {ns : List Nat} (h : ns.length < 2) : sortK ns = ns := by
  match ns, h with
  | [], _ => rfl
  | [x], _ => rfl
theorem own_empty (w : World) (B : Nat) (hB : B ≤ w.heap.size) : OwnInts (w.alloc (.cells #[] 3)) B (.slice (some ⟨w.heap.size, 0, none⟩) 0 0) [] :=
  ⟨⟨by simp, .inr ⟨w.heap.size, 0, #[], rfl, hB, heap_alloc_new w _, Nat.le_refl _, by unfold maxLen; omega, by simp, by simp⟩⟩, by simp⟩
set_option maxRecDepth 100000 in
set_option maxHeartbeats 4000000 in
theorem rsort_any : ∀ (k : Nat) (ns : List Nat) (v : Value) (w : World), ns.length ≤ k → SetsAt w v ns → ns.length ≤ 8796093022208 →
    Calls Tryz.prog 89 #[v] w fun e w' => (∃ v', e = .returned v' ∧ OwnSets w' 0 v' (sortK ns)) ∧ Kept w w' := by
  intro k
  induction k using Nat.strongRecOn with
  | ind k ih =>
    intro ns v w hk hv hl
    obtain ⟨a, c, rfl, hc, hne⟩ := hv.shape
    by_cases h2 : ns.length < 2
    · have h2' : (ns.length : Int) < 2 := by omega
      have HV := Lib.hid hv
      have HS := Lib.hid (sorted_small h2)
      clear ih hne hv h2
      go_enter Tryz.func89, Tryz.ntmps89
      go_wp2_with (at_builtin; refine app_ints rfl _ _ rfl w.heap.size _ [] rfl (own_empty w _ (Nat.le_refl _)) _ (ofN ns) rfl (HV.out.1.kept ((Kept.refl _).alloc _)) (by simp; omega) (by simp) ?_; intro v7 w7 hown7 _ hb7; have O7 := Lib.hid hown7; have HB7 := Lib.hid hb7; clear hown7 hb7)
      go_ret
      exact ⟨⟨_, rfl, ⟨by rw [HS.out]; simpa using O7.out.mono (Nat.zero_le _), by rw [HS.out]; exact HV.out.2⟩⟩, ((Kept.refl _).alloc _).app HB7.out⟩
    · obtain ⟨b, o, rfl⟩ := hne (fun e => by subst e; simp at h2)
      obtain ⟨h, hh⟩ : ∃ h, h = ns.length / 2 := ⟨_, rfl⟩
      have hT := hv.take h (by omega)
      have hD := hv.drop h (by omega)
      obtain ⟨n, hn⟩ : ∃ n, n = ns.length := ⟨_, rfl⟩
      rw [← hn] at hk hl hc h2 hD hh ⊢
      have HIH := Lib.hid ih
      have HT := Lib.hid hT
      have HD := Lib.hid hD
      have HN := Lib.hid hn
      have hv2 := Lib.hid hv.2
      have HL : Hid (∀ W, Kept w W → Calls Tryz.prog 89 #[.slice (some ⟨b, o, none⟩) h c] W fun e w' => (∃ v', e = .returned v' ∧ OwnSets w' 0 v' (sortK (ns.take h))) ∧ Kept W w') :=
        Lib.hid fun W hW => HIH.out h (by omega) (ns.take h) _ W (by simp; omega) (HT.out.kept hW) (by simp; omega)
      have HR : Hid (∀ W, Kept w W → Calls Tryz.prog 89 #[.slice (some ⟨b, o + h, none⟩) (n - h) (c - h)] W fun e w' => (∃ v', e = .returned v' ∧ OwnSets w' 0 v' (sortK (ns.drop h))) ∧ Kept W w') :=
        Lib.hid fun W hW => HIH.out (n - h) (by omega) (ns.drop h) _ W (by have := HN.out; simp; omega) (HD.out.kept hW) (by have := HN.out; simp; omega)
      have hq1 : Int.tdiv (n : Int) 2 = (h : Int) := by rw [Int.tdiv_eq_ediv_of_nonneg (by omega)]; omega
      have hq2 : (n : Int) / 2 = (h : Int) := by omega
      have hq3 : IntKind.i64.wrap (h : Int) = (h : Int) := by rw [IntKind.wrap_i64]; omega
      have hb1 : (0 : Int) ≤ (h : Int) := by omega
      have hb2 : (h : Int) ≤ (n : Int) := by omega
      have hb3 : (h : Int) ≤ (c : Int) := by omega
      have hb4 : (n : Int) ≤ (c : Int) := by omega
      have h2' : ¬ (n : Int) < 2 := by omega
      have hcn : h ≠ c := by omega
      clear hT hD hn hv ih hne hh h2
      go_enter Tryz.func89, Tryz.ntmps89
      go_upto_region 3 with fail
      go_cut [3, 4] (fun va vb wx => SetsAt wx va (sortK (ns.take h)) ∧ SetsAt wx vb (sortK (ns.drop h)) ∧ Kept w wx)
      case first =>
        go_region_held3 (fun _ => True) (trivial)
          (first
            | (go_at_call_of 89 (Value.slice (some ⟨b, o, none⟩) h c); refine (HL.out _ (by first | exact (Kept.refl _).drew | exact (Kept.refl _).drew.trans hk6)).mono ?_; rintro e w5 ⟨⟨va, rfl, hoa⟩, hk5⟩)
            | (go_at_call 89; refine (HR.out _ (by first | exact (Kept.refl _).drew | exact (Kept.refl _).drew.trans hk5)).mono ?_; rintro e w6 ⟨⟨vb, rfl, hob⟩, hk6⟩))
        all_goals (go_wp2_with fail; go_meet; exact ⟨hoa.sets.kept hk6, hob.sets, ((Kept.refl _).drew.trans hk5).trans hk6⟩)
      case rest =>
        obtain ⟨hA, hB, hK⟩ := hcut
        have HA := Lib.hid hA
        have HB := Lib.hid hB
        have HK := Lib.hid hK
        clear hA hB hK
        clear hq1 hq2 hq3 hb1 hb2 hb3 hb4 hcn HIH HT HD HL HR hk
        go_wp2_with fail
        obtain ⟨wo, rfl⟩ : ∃ wo : World, wo = wc := ⟨_, rfl⟩
        go_loopw [3, 4, 5, 6] (fun va vb vo _ wr => ∃ (xs ys zs : List Nat), Hid (SetsAt wo va xs ∧ SetsAt wo vb ys ∧ MInv ns zs xs ys) ∧ OwnInts wr wo.heap.size vo (ofN zs) ∧ Kept wo wr) (fun va vb _ _ _ => lenV va + lenV vb)
        case atStart => exact ⟨_, _, [], Lib.hid ⟨HA.out, HB.out, MInv.start ns h⟩, OwnInts.nil _ _, Kept.refl _⟩
        case round =>
          obtain ⟨xs, ys, zs, HI, hO, hKr⟩ := hrel
          have HO := Lib.hid hO
          have HKr := Lib.hid hKr
          have hlen := HI.out.2.2.len
          rw [← HN.out] at hlen
          have hmk := HI.out.2.2.masks (fun m hm => hv2.out m hm)
          have HM := Lib.hid hmk
          have hsz := hKr.size
          clear hO hKr hmk
          match xs, ys with
          | [], ys =>
            have HA2 := Lib.hid HI.out.1
            have HB2 := Lib.hid HI.out.2.1
            have HMI := Lib.hid HI.out.2.2
            clear HI HM
            obtain ⟨aa, ca, rfl, hca, hna⟩ := HA2.out.shape
            obtain ⟨ab, cb, rfl, hcb, hnb⟩ := HB2.out.shape
            simp only [List.length_nil] at HA2 hca hlen ⊢
            clear hna hnb
            go_wp2_with (first
              | (at_builtin; refine app_ints rfl _ _ rfl wo.heap.size _ (ofN zs) rfl HO.out _ (ofN []) rfl (HA2.out.1.kept HKr.out) (by simp; omega) hsz ?_; intro v7 w7 hown7 _ hb7; have O7 := Lib.hid hown7; have HB7 := Lib.hid hb7; clear hown7 hb7)
              | (at_builtin; refine app_ints rfl _ _ rfl wo.heap.size _ (ofN zs ++ ofN []) rfl O7.out _ (ofN ys) rfl (HB2.out.1.kept (HKr.out.app HB7.out)) (by simp; omega) (by have := (HKr.out.app HB7.out).size; omega) ?_; intro v8 w8 hown8 _ hb8; have O8 := Lib.hid hown8; have HB8 := Lib.hid hb8; clear hown8 hb8))
            go_ret
            refine ⟨⟨_, rfl, ⟨?_, fun z hz => hv2.out z ((mem_sortK ns z).1 hz)⟩⟩, HK.out.trans ((HKr.out.app HB7.out).app HB8.out)⟩
            have := O8.out
            rw [← List.map_append, ← List.map_append, HMI.out.doneL] at this
            exact this.mono (Nat.zero_le _)
          | x :: xs, [] =>
            have HA2 := Lib.hid HI.out.1
            have HB2 := Lib.hid HI.out.2.1
            have HMI := Lib.hid HI.out.2.2
            clear HI HM
            obtain ⟨aa, ca, rfl, hca, hna⟩ := HA2.out.shape
            obtain ⟨ab, cb, rfl, hcb, hnb⟩ := HB2.out.shape
            simp only [List.length_nil, List.length_cons] at HA2 HB2 hca hcb hlen ⊢
            have hp1 : (0 : Int) < ((xs.length + 1 : Nat) : Int) := by omega
            clear hna hnb
            go_wp2_with (first
              | (at_builtin; refine app_ints rfl _ _ rfl wo.heap.size _ (ofN zs) rfl HO.out _ (ofN (x :: xs)) rfl (HA2.out.1.kept HKr.out) (by simp; omega) hsz ?_; intro v7 w7 hown7 _ hb7; have O7 := Lib.hid hown7; have HB7 := Lib.hid hb7; clear hown7 hb7)
              | (at_builtin; refine app_ints rfl _ _ rfl wo.heap.size _ (ofN zs ++ ofN (x :: xs)) rfl O7.out _ (ofN []) rfl (HB2.out.1.kept (HKr.out.app HB7.out)) (by simp; omega) (by have := (HKr.out.app HB7.out).size; omega) ?_; intro v8 w8 hown8 _ hb8; have O8 := Lib.hid hown8; have HB8 := Lib.hid hb8; clear hown8 hb8))
            go_ret
            refine ⟨⟨_, rfl, ⟨?_, fun z hz => hv2.out z ((mem_sortK ns z).1 hz)⟩⟩, HK.out.trans ((HKr.out.app HB7.out).app HB8.out)⟩
            have := O8.out
            rw [← List.map_append, ← List.map_append, HMI.out.doneR] at this
            exact this.mono (Nat.zero_le _)
          | x :: xs, y :: ys =>
            have HA2 := Lib.hid HI.out.1
            have HB2 := Lib.hid HI.out.2.1
            have HMI := Lib.hid HI.out.2.2
            have mx : Mk x := HM.out.2.1 x (List.mem_cons_self ..)
            have my : Mk y := HM.out.2.2 y (List.mem_cons_self ..)
            clear HI HM
            obtain ⟨aa, ca, rfl, hca, hna⟩ := HA2.out.shape
            obtain ⟨ab, cb, rfl, hcb, hnb⟩ := HB2.out.shape
            obtain ⟨ba, oa, rfl⟩ := hna (by simp)
            obtain ⟨bb, ob, rfl⟩ := hnb (by simp)
            simp only [List.length_cons] at HA2 HB2 hca hcb hlen ⊢
            have c1 := HKr.out.cell HA2.out.head
            have c2 := HKr.out.cell HB2.out.head
            clear hna hnb
            have hp1 : (0 : Int) < ((xs.length + 1 : Nat) : Int) := by omega
            have hp2 : (0 : Int) < ((ys.length + 1 : Nat) : Int) := by omega
            have hp3 : (1 : Int) ≤ ((xs.length + 1 : Nat) : Int) := by omega
            have hp4 : (1 : Int) ≤ ((ys.length + 1 : Nat) : Int) := by omega
            have hp5 : (1 : Int) ≤ (ca : Int) := by omega
            have hp6 : (1 : Int) ≤ (cb : Int) := by omega
            have hcmp : ∀ W, Calls Tryz.prog 147 #[.int .i64 x, .int .i64 y] W fun e w' => e = .returned (.int .i64 (cmpR x y)) ∧ w' = W := fun W => (rcompare_any mx my W).mono fun _ _ ⟨h1, h2⟩ => ⟨h1, h2.symm⟩
            by_cases hxy : x = y
            · rw [show cmpR x y = 0 from if_pos hxy] at hcmp
              subst hxy
              have HC := Lib.hid hcmp
              clear hcmp
              go_wp2_with fail
              go_quiet ((go_at_call 147; exact Calls.quiet_of_same (HC.out _)))
              generalize HWQ : World.drewN wr _ = wq
              have HKq : Hid (Kept wr wq) := Lib.hid (by rw [← HWQ]; exact (Kept.refl _).drewN _)
              have HSq : wo.heap.size ≤ wq.heap.size := by have := HKq.out.size; omega
              have d1 := HKq.out.cell c1
              have d2 := HKq.out.cell c2
              clear HWQ c1 c2
              go_wp2_with (at_builtin; refine app_int rfl _ _ rfl wo.heap.size _ (ofN zs) rfl (HO.out.kept (HKq.out.alloc _)) _ (x : Int) rfl (by simp) (by simp; omega) (by simp; omega) ?_; intro v7 w7 hown7 _ hb7; have O7 := Lib.hid hown7; have HB7 := Lib.hid hb7; clear hown7 hb7)
              go_roundw
              case rel => exact ⟨xs, ys, zs ++ [x], Lib.hid ⟨HA2.out.rest, HB2.out.rest, HMI.out.eq⟩, by simpa [ofN] using O7.out, ((HKr.out.trans (HKq.out.alloc _)).app HB7.out)⟩
              case measure => simp [lenV]; try omega
            · by_cases hlt : ltK x y
              · rw [show cmpR x y = -1 by unfold cmpR; rw [if_neg hxy, if_pos hlt]] at hcmp
                have HC := Lib.hid hcmp
                have HXY := Lib.hid hlt
                clear hcmp hlt hxy
                go_wp2_with fail
                go_quiet ((go_at_call 147; exact Calls.quiet_of_same (HC.out _)))
                generalize HWQ : World.drewN wr _ = wq
                have HKq : Hid (Kept wr wq) := Lib.hid (by rw [← HWQ]; exact (Kept.refl _).drewN _)
                have HSq : wo.heap.size ≤ wq.heap.size := by have := HKq.out.size; omega
                have d1 := HKq.out.cell c1
                have d2 := HKq.out.cell c2
                clear HWQ c1 c2
                go_wp2_with (at_builtin; refine app_int rfl _ _ rfl wo.heap.size _ (ofN zs) rfl (HO.out.kept (HKq.out.alloc _)) _ (x : Int) rfl (by simp) (by simp; omega) (by simp; omega) ?_; intro v7 w7 hown7 _ hb7; have O7 := Lib.hid hown7; have HB7 := Lib.hid hb7; clear hown7 hb7)
                go_roundw
                case rel => exact ⟨xs, y :: ys, zs ++ [x], Lib.hid ⟨HA2.out.rest, HB2.out, HMI.out.lt HXY.out⟩, by simpa [ofN] using O7.out, ((HKr.out.trans (HKq.out.alloc _)).app HB7.out)⟩
                case measure => simp [lenV]; try omega
              · rw [show cmpR x y = 1 by unfold cmpR; rw [if_neg hxy, if_neg hlt]] at hcmp
                have HC := Lib.hid hcmp
                have hgt : ltK y x := by rcases ltK_total x y with h | h | h; exact absurd h hlt; exact absurd h hxy; exact h
                have HXY := Lib.hid hgt
                clear hcmp hlt hxy hgt
                go_wp2_with fail
                go_quiet ((go_at_call 147; exact Calls.quiet_of_same (HC.out _)))
                generalize HWQ : World.drewN wr _ = wq
                have HKq : Hid (Kept wr wq) := Lib.hid (by rw [← HWQ]; exact (Kept.refl _).drewN _)
                have HSq : wo.heap.size ≤ wq.heap.size := by have := HKq.out.size; omega
                have d1 := HKq.out.cell c1
                have d2 := HKq.out.cell c2
                clear HWQ c1 c2
                go_wp2_with (at_builtin; refine app_int rfl _ _ rfl wo.heap.size _ (ofN zs) rfl (HO.out.kept (HKq.out.alloc _)) _ (y : Int) rfl (by simp) (by simp; omega) (by simp; omega) ?_; intro v7 w7 hown7 _ hb7; have O7 := Lib.hid hown7; have HB7 := Lib.hid hb7; clear hown7 hb7)
                go_roundw
                case rel => exact ⟨x :: xs, ys, zs ++ [y], Lib.hid ⟨HA2.out, HB2.out.rest, HMI.out.gt HXY.out⟩, by simpa [ofN] using O7.out, ((HKr.out.trans (HKq.out.alloc _)).app HB7.out)⟩
                case measure => simp [lenV]; try omega
end Go.Proofs.YtngbjdaaogbjmaaGreat

/-
  Walks: family.Covers, family.Check; slices.Equal of equal lists.
-/
namespace Go.Proofs.YtngbjdaaogbjmaaGreat
open Go.RowKit

theorem equal_true (xs : List Int) (va vb : Value) (w : World) (ha : IntsAt w va xs) (hb : IntsAt w vb xs) : Calls Tryz.prog 52 #[va, vb] w fun e w' => e = .returned (.bool true) ∧ Kept w w' := by
  obtain ⟨aa, ca, rfl, _, hla, hca⟩ := ha
  obtain ⟨ab, cb, rfl, _, hlb, hcb⟩ := hb
  by_cases h0 : xs = []
  · subst h0
    exact (Go.Proofs.Tryz.slices_Equal_int_empty aa ab ca 0 cb w (by omega)).mono fun e w' ⟨h1, h2⟩ => ⟨h1, by subst h2; exact Kept.refl _⟩
  · have hp : 0 < xs.length := List.length_pos_iff.2 h0
    obtain ⟨b1, o1, rfl, _⟩ := hca 0 hp
    obtain ⟨b2, o2, rfl, _⟩ := hcb 0 hp
    refine (Go.Proofs.Tryz.slices_Equal_int b1 o1 xs.length ca b2 o2 xs.length cb xs xs w (Nat.le_refl _) (Nat.le_refl _) (by omega) (by omega) ?_ ?_).mono fun e w' ⟨h1, q, h2⟩ => ⟨by rw [h1]; simp, by subst h2; exact (Kept.refl _).drewN _⟩
    · intro j hj
      obtain ⟨b, o, h1, h2⟩ := hca j hj
      cases h1
      rw [h2]; simp [hj]
    · intro j hj
      obtain ⟨b, o, h1, h2⟩ := hcb j hj
      cases h1
      rw [h2]; simp [hj]
def covB (l : List Nat) (s : Nat) : Bool := l.any fun t => subN t s
theorem covB_up (l : List Nat) (s : Nat) : covB l s = true ↔ up l s := by
  unfold covB up; rw [List.any_eq_true]
theorem cov_ofN {ns : List Nat} {s : Nat} (hm : ∀ n ∈ ns, Mk n) (hs : Mk s) : (ofN ns).any (fun t => subB t (s : Int)) = covB ns s := by
  unfold covB
  induction ns with
  | nil => rfl
  | cons n ns ih =>
    simp only [ofN, List.map_cons, List.any_cons] at ih ⊢
    rw [ih fun x hx => hm x (List.mem_cons_of_mem _ hx), subB_subN (hm n (List.mem_cons_self ..)) hs]
theorem sortK_can {l : List Nat} (h : Can l) : sortK l = l := (sortK_unique l l (by rw [← h]; exact pair_minK l) fun _ => Iff.rfl).symm
set_option maxHeartbeats 1000000 in
theorem fcheck_good (va : Value) (ns : List Nat) (w : World) (hv : SetsAt w va ns) (hg : Good ns) :
    Calls Tryz.prog 21 #[va] w fun e w' => e = .returned .nilIface ∧ Kept w w' := by
  have hl := hg.2
  have HL : Hid (Calls Tryz.prog 51 #[.slice (some ⟨w.heap.size, 0, none⟩) 1 1] (w.alloc (.cells #[va] 27)) fun e w' => e = .returned .nilIface ∧ Kept w w') := Lib.hid (by
    have := lists1 ns va w hv
    rw [if_pos hl, errV_zero] at this
    exact this)
  have HS : Hid (∀ W, Kept w W → Calls Tryz.prog 53 #[va] W fun e w' => (∃ v', e = .returned v' ∧ IntsAt w' v' (ofN ns)) ∧ Kept W w') := Lib.hid fun W hk => by
    refine (sorted_any va ns W hv.2 (hv.kept hk).1 (by omega)).mono ?_
    rintro e w' ⟨v', h1, h2, h3⟩
    rw [sortK_can hg.1] at h2
    exact ⟨⟨v', h1, h2.ints⟩, h3⟩
  have HM : Hid (∀ W, Kept w W → Calls Tryz.prog 54 #[va] W fun e w' => (∃ v', e = .returned v' ∧ SetsAt w' v' ns) ∧ Kept W w') := Lib.hid fun W hk => by
    refine (minimalS_any va ns W (hv.kept hk) (by omega)).mono ?_
    rintro e w' ⟨v', h1, h2, h3⟩
    rw [hg.1] at h2
    exact ⟨⟨v', h1, h2.sets⟩, h3⟩
  have HV := Lib.hid hv
  obtain ⟨a, c, rfl, _, _⟩ := hv.shape
  clear hv hg hl
  go_enter Tryz.func21, Tryz.ntmps21
  go_wp2_with fail
  refine HL.out.mono ?_
  rintro e w1 ⟨rfl, hk1⟩
  have K1 := Lib.hid hk1
  clear hk1
  go_wp2_with (first
    | (go_at_call 53; refine (HS.out _ K1.out).mono ?_; rintro e w2 ⟨⟨v2, rfl, hv2⟩, hk2⟩; have HV2 := Lib.hid hv2; have K2 := Lib.hid (K1.out.trans hk2); clear hv2 hk2)
    | (go_at_call 52; refine (equal_true (ofN ns) _ _ _ ((HV.out.kept K2.out).1) HV2.out).mono ?_; rintro e w3 ⟨rfl, hk3⟩; have K3 := Lib.hid (K2.out.trans hk3); clear hk3)
    | (go_at_call 54; refine (HM.out _ K3.out).mono ?_; rintro e w4 ⟨⟨v4, rfl, hv4⟩, hk4⟩; obtain ⟨a4, c4, rfl, _, _⟩ := hv4.shape; have K4 := Lib.hid (K3.out.trans hk4); clear hk4 hv4))
  go_ret
  exact ⟨rfl, K4.out⟩
end Go.Proofs.YtngbjdaaogbjmaaGreat

/-
  Walks: topdown.Cuts, topdown.Steps.
-/
namespace Go.Proofs.YtngbjdaaogbjmaaGreat
open Go.RowKit

theorem nodup_perm {R : List Nat} : ∀ {l : List Nat}, R.Nodup → (∀ x ∈ R, x ∈ l) → l.length ≤ R.length → l.Perm R := by
  induction R with
  | nil => intro l _ _ hl; simp at hl; subst hl; exact .refl _
  | cons x R ih =>
    intro l hn hs hl
    have hx : x ∈ l := hs x (List.mem_cons_self ..)
    have h1 := List.perm_cons_erase hx
    have h2 := ih (l := l.erase x) (List.nodup_cons.1 hn).2 (fun y hy => (List.mem_erase_of_ne (fun e => (List.nodup_cons.1 hn).1 (by rw [← e]; exact hy))).2 (hs y (List.mem_cons_of_mem _ hy))) (by rw [List.length_erase_of_mem hx]; simp at hl; omega)
    exact h1.trans (h2.cons x)
theorem sorted_can {R rs : List Nat} (hR : Can R) (hl : rs.length = R.length) (hp : rs.Pairwise (fun a b => ltK a b ∨ a = b)) (hm : ∀ x, x ∈ rs ↔ x ∈ R) : rs = R := by
  have hpR : R.Pairwise ltK := by rw [← hR]; exact pair_minK R
  have hnR : R.Nodup := hpR.imp fun {a b} h e => by subst e; exact ltK_irr a h
  have hperm := nodup_perm hnR (fun x hx => (hm x).2 hx) (Nat.le_of_eq hl)
  have hn : rs.Nodup := hperm.symm.nodup hnR
  have hlt : rs.Pairwise ltK := (hp.and hn).imp fun {a b} h => h.1.resolve_right h.2
  exact pair_unique ltK ltK_irr ltK_tr rs R hlt hpR hm
/-- What run answers when it succeeds. -/
def RunGood (w' : World) (e : Ending) (p : List Nat × List Nat) : Prop := ∃ v1 v2 L, e = .returned (.tuple #[v1, v2, .nilIface]) ∧ OwnRws w' 0 v1 L ∧ L.Perm p.1 ∧ OwnInts w' 0 v2 (ofN p.2)
set_option maxRecDepth 100000 in
theorem tcuts_err (v : Value) (f : Fm) (q : Nat) (hq : q ≠ 0) (w : World) (hs : ∃ a n c, v = .slice a n c) (hr : ∀ W, Kept w W → Calls Tryz.prog 46 #[fmV v f] W fun e w' => e = .returned (.tuple #[.slice none 0 0, .slice none 0 0, errV q]) ∧ Kept W w') :
    Calls Tryz.prog 17 #[fmV v f] w fun e w' => e = .returned (.tuple #[.slice none 0 0, errV q]) ∧ Kept w w' := by
  obtain ⟨a, n, c, rfl⟩ := hs
  obtain ⟨vars, nodes, top⟩ := f
  have H : Hid (∀ W, Kept w W → Calls Tryz.prog 46 #[.agg #[.int .i64 vars, .slice a n c, .int .i64 top]] W fun e w' => e = .returned (.tuple #[.slice none 0 0, .slice none 0 0, errV q]) ∧ Kept W w') := Lib.hid hr
  rw [errV_pos hq] at *
  clear hr hq
  show Calls _ _ #[.agg #[.int .i64 vars, .slice a n c, .int .i64 top]] _ _
  go_enter Tryz.func17, Tryz.ntmps17
  go_wp2_with (go_at_call 46; refine (H.out _ ((Kept.refl _).alloc _)).mono ?_; rintro e w1 ⟨rfl, hk1⟩)
  go_ret2
  exact ⟨rfl, ((Kept.refl _).alloc _).trans hk1⟩
set_option maxRecDepth 100000 in
set_option maxHeartbeats 1000000 in
theorem tcuts_ok (v : Value) (V T : Nat) (p : List Nat × List Nat) (w : World) (hg : Good p.1) (hm : ∀ r ∈ p.1, Mk r) (hs : ∃ a n c, v = .slice a n c) (hr : ∀ W, Kept w W → Calls Tryz.prog 46 #[.agg #[.int .i64 V, v, .int .i64 T]] W fun e w' => RunGood w' e p ∧ Kept W w') :
    Calls Tryz.prog 17 #[.agg #[.int .i64 V, v, .int .i64 T]] w fun e w' => (∃ v', e = .returned (.tuple #[v', .nilIface]) ∧ OwnSets w' 0 v' p.1) ∧ Kept w w' := by
  obtain ⟨a, n, c, rfl⟩ := hs
  have H := Lib.hid hr
  have HG := Lib.hid hg
  have HM := Lib.hid hm
  clear hr hg hm
  go_enter Tryz.func17, Tryz.ntmps17
  go_wp2_with (go_at_call 46; refine (H.out _ ((Kept.refl _).alloc _)).mono ?_; rintro e w1 ⟨⟨v1, v2, L, rfl, ho1, hp1, ho2⟩, hk1⟩; obtain ⟨ln, hln⟩ : ∃ ln, ln = L.length := ⟨_, rfl⟩; obtain ⟨a1, c1, rfl⟩ := ho1.at.shape; obtain ⟨a2, n2, c2, rfl⟩ := ho2.ints.shape; rw [← hln] at ho1; rw [← hln]; have O1 := Lib.hid ho1; have HLN := Lib.hid hln; have HP1 := Lib.hid hp1; have hlb : ln ≤ 10000 := (by rw [hln]; exact ho1.at.len); clear hln hp1 ho1 ho2)
  have hk1w := ((Kept.refl _).alloc _).trans hk1
  have HK1 := Lib.hid hk1w
  clear hk1w hk1
  go_loopg [7, 21] ln (fun kx s7 s21 wr => ∃ (k : Nat) (vo : Value), s7 = vo ∧ s21 = .int .i64 k ∧ k ≤ ln ∧ ln - k ≤ kx ∧ Hid (OwnInts wr w1.heap.size vo (ofN (L.take k))) ∧ Hid (Kept w1 wr))
  case atStart => exact ⟨0, _, rfl, rfl, Nat.zero_le _, by omega, Lib.hid (OwnInts.nil _ _), Lib.hid (Kept.refl _)⟩
  case round =>
    obtain ⟨k, vo, rfl, rfl, hk, hkx, HO, HK⟩ := hrel
    have hsz := HK.out.size
    obtain ⟨ao, no, co, hvo⟩ := HO.out.ints.shape
    subst hvo
    by_cases hlt : k < ln
    · have hkl : k < L.length := by have := HLN.out; omega
      obtain ⟨b, o, rfl, hrg⟩ := (O1.out.at.kept HK.out).get k hkl
      have hmk : Mk L[k] := HM.out _ (HP1.out.mem_iff.1 (List.getElem_mem _))
      have hev : evW L[k] = L[k] := by unfold evW; unfold Mk at hmk; omega
      have hnext : ofN (L.take (k + 1)) = ofN (L.take k) ++ [((evW L[k] : Nat) : Int)] := by unfold ofN; rw [hev, List.take_succ_eq_append_getElem hkl, List.map_append]; rfl
      have hlen : (ofN (L.take k)).length = k := by simp [ofN]; omega
      have hkn : (k : Int) < (ln : Int) := by omega
      have HRG : Hid (wr.rangeAt b (o + k * 3) [.int .i64 (evW L[k]), .int .u64 (loW L[k]), .int .u64 (hiW L[k])]) := Lib.hid hrg
      generalize evW L[k] = z0 at *
      generalize loW L[k] = z1 at *
      generalize hiW L[k] = z2 at *
      have HNX := Lib.hid hnext
      clear hrg hmk hev hnext
      go_wp2_with (first | (with_reducible refine wpList_load_mid rfl 86 _ rfl b (o + k * 3) rfl _ _ HRG.out Tryz.underlying86 rfl (by kernel_rfl) ?_) | (at_builtin; refine app_int rfl _ _ rfl w1.heap.size _ (ofN (L.take k)) rfl (HO.out.kept (((Kept.refl _).alloc _).alloc _)) _ (z0 : Int) rfl (by simp) (by rw [hlen]; omega) (by simp; omega) ?_; intro v7 w7 hown7 _ hb7; have O7 := Lib.hid hown7; have HB7 := Lib.hid hb7; clear hown7 hb7))
      go_roundg (ln - (k + 1))
      case measure => omega
      case rel => exact ⟨k + 1, v7, rfl, by go_num, by omega, Nat.le_refl _, Lib.hid (by rw [HNX.out]; exact O7.out), Lib.hid (((HK.out.alloc _).alloc _).app HB7.out)⟩
    · have hke : k = ln := by omega
      have HF : Hid (OwnInts wr w1.heap.size (.slice ao no co) (ofN L)) := Lib.hid (by have h := HO.out; rw [hke, HLN.out, List.take_length] at h; exact h)
      have HML : Hid (∀ n ∈ L, Mk n) := Lib.hid fun x hx => HM.out x (HP1.out.mem_iff.1 hx)
      clear hke
      go_wp2_with (go_at_call 47; refine (sort_any w1.heap.size _ L _ HML.out HF.out hsz).mono ?_; rintro e w3 ⟨rfl, rs, hr1, hr2, hr3, hr4, ho3, hb3⟩; have O3 := Lib.hid ho3; have R1 := Lib.hid hr1; have R2 := Lib.hid hr2; have R3 := Lib.hid hr3; have R4 := Lib.hid hr4; clear ho3 hr1 hr2 hr3 hr4)
      go_ret2
      have he : rs = p.1 := sorted_can HG.out.1 (R2.out.trans HP1.out.length_eq) R3.out fun x => (R4.out x).trans HP1.out.mem_iff
      refine ⟨⟨_, rfl, by rw [← he]; exact O3.out.mono (Nat.zero_le _), HM.out⟩, HK1.out.trans (HK.out.app hb3)⟩
end Go.Proofs.YtngbjdaaogbjmaaGreat

/-
  Walks: faultlinelaw31.awake.
-/
namespace Go.Proofs.YtngbjdaaogbjmaaGreat
open Go.RowKit

theorem pc_even (n : Nat) (h : 0 < n) : pc (2 * n) = pc n := by
  conv => lhs; unfold pc
  rw [if_neg (by omega), show 2 * n % 2 = 0 by omega, show 2 * n / 2 = n by omega]; omega
theorem pc_odd (n : Nat) : pc (2 * n + 1) = 1 + pc n := by
  conv => lhs; unfold pc
  rw [if_neg (by omega), show (2 * n + 1) % 2 = 1 by omega, show (2 * n + 1) / 2 = n by omega]
theorem pc_two (k : Nat) : pc (2 ^ k) = 1 := by
  induction k with
  | zero => exact pcs.2.1
  | succ k ih => rw [Nat.pow_succ, Nat.mul_comm, pc_even _ (Nat.pow_pos (by omega))]; exact ih
set_option linter.unusedSimpArgs false in
theorem top_ex : topK 3 5 exN = some ([1, 6], [1, 2, 2]) := by
  obtain ⟨h0, h1, h2, h3, h4, h5, h6, h7⟩ := pcs
  have p1 : pc 16777217 = 2 := by rw [show 16777217 = 2 * 2 ^ 23 + 1 by decide, pc_odd, pc_two]
  have p2 : pc 16777220 = 2 := by rw [show 16777220 = 2 * (2 * (2 * 2 ^ 21 + 1)) by decide, pc_even _ (by decide), pc_even _ (by decide), pc_odd, pc_two]
  have m1 : minK [50331648] = [50331648] := by simp [minK, sortK, insK, minN, keepN]
  have m2 : minK [16777217, 16777220] = [16777217, 16777220] := by simp +decide [minK, sortK, insK, minN, keepN, ltK, p1, p2]
  have m3 : minK [1, 3, 5, 6] = [1, 6] := by simp +decide [minK, sortK, insK, minN, keepN, ltK, h0, h1, h2, h3, h4, h5, h6, h7]
  have s2 : runK 3 exN 3 [67108864] = (runK 3 exN 2 [50331648]).map fun p => (p.1, 1 :: p.2) := by
    conv => lhs; unfold runK
    rw [if_pos (by decide), show expK 3 (exN.getD 2 noNd) 2 [67108864] = [50331648] by decide, m1]; rfl
  have s1 : runK 3 exN 2 [50331648] = (runK 3 exN 1 [16777217, 16777220]).map fun p => (p.1, 2 :: p.2) := by
    conv => lhs; unfold runK
    rw [if_pos (by decide), show expK 3 (exN.getD 1 noNd) 1 [50331648] = [16777217, 16777220] by decide, m2]; rfl
  have s0 : runK 3 exN 1 [16777217, 16777220] = (runK 3 exN 0 [1, 6]).map fun p => (p.1, 2 :: p.2) := by
    conv => lhs; unfold runK
    rw [if_pos (by decide), show expK 3 (exN.getD 0 noNd) 0 [16777217, 16777220] = [1, 3, 5, 6] by decide, m3]; rfl
  unfold topK
  rw [show cond 3 ((5 : Nat) : Int) = 67108864 by decide, show exN.length = 3 from rfl, s2, s1, s0]
  rfl
theorem tex_cases : (∃ q, ((q = 4 ∧ synK 3 5 exF = true ∧ topK 3 5 exF.nodes = none) ∨ (q = 7 ∧ synK 3 5 exF = false))) → False := by
  rintro ⟨q, ⟨_, _, h⟩ | ⟨_, h⟩⟩
  · rw [show exF.nodes = exN from rfl, top_ex] at h; cases h
  · rw [syn_ex] at h; cases h
theorem three_new (w : World) (x y z : Int) : IntsAt (w.alloc (.cells #[.int .i64 x, .int .i64 y, .int .i64 z] 3)) (.slice (some ⟨w.heap.size, 0, none⟩) 3 3) [x, y, z] := by
  refine ⟨_, 3, rfl, ⟨Nat.le_refl _, fun h => by cases h⟩, by simp, fun i hi => ⟨w.heap.size, 0, rfl, ?_⟩⟩
  match i, hi with
  | 0, _ => exact alloc_cell rfl rfl
  | 1, _ => exact alloc_cell rfl rfl
  | 2, _ => exact alloc_cell rfl rfl
end Go.Proofs.YtngbjdaaogbjmaaGreat

/-
  Walks: faultlinebase.Is. The frame of the laws of a formula and a small number.
-/
namespace Go.Proofs.YtngbjdaaogbjmaaGreat
open Go.RowKit Go.ChangeShapes Go.WideShapes Go.ChangeAt Go.Joins Go.Deep

theorem as_nil (w : World) : (Instr.typeAssert .nilIface 31 64 true).run Tryz.prog w = .ok (.tuple #[.int .i64 0, .bool false]) w := by kernel_rfl
theorem OwnFams.sliceS {w : World} {B : Nat} {v : Value} {xss : List (List Nat)} (h : OwnFams w B v xss) : ∃ a n c, v = .slice a n c := by
  obtain ⟨us, _, ⟨_, h⟩, _⟩ := h
  rcases h with ⟨rfl, _⟩ | ⟨g, cp, _, rfl, _⟩
  · exact ⟨_, _, _, rfl⟩
  · exact ⟨_, _, _, rfl⟩
set_option maxRecDepth 100000 in
theorem is_any (q c : Nat) (hq : q ≠ 0) (w : World) : Calls Tryz.prog 30 #[errV q, .int .i64 c] w fun e w' => e = .returned (.bool (q == c)) ∧ w = w' := by
  rw [errV_pos hq]
  have e : ((q : Int) == (c : Int)) = (q == c) := by rw [Bool.eq_iff_iff]; simp; omega
  have HE := Lib.hid e
  clear hq e
  go_enter Tryz.func30, Tryz.ntmps30
  go_wp2
  rw [as_errno]
  go_wp2
  go_ret
  exact ⟨by rw [← HE.out]; rfl, rfl⟩
set_option maxRecDepth 100000 in
theorem is_nil (c : Nat) (w : World) : Calls Tryz.prog 30 #[.nilIface, .int .i64 c] w fun e w' => e = .returned (.bool false) ∧ w = w' := by
  go_enter Tryz.func30, Tryz.ntmps30
  go_wp2
  rw [as_nil]
  go_wp2
  go_ret
  exact ⟨rfl, rfl⟩
set_option maxRecDepth 100000 in
/-- A law of a formula and a number: from its walk to its row's step. -/
theorem lift2 {s : ChangeSpec} (F : FuncId) (fn : Func) (t2 : TypeId) (k2 : IntKind) (ht2 : Tryz.prog.underlying t2 = some (.int k2)) (hr2 : Tryz.prog.readableRec t2 = true) (hlt2 : t2 < Tryz.prog.types.size) (hs1 : s.vars = []) (hs2 : ∀ (H : Type) (d1 d2 : DataW H), s.fn H [d1, d2] = { results := [.lit (.bool true)], args := [d1, d2] })
    (hp : fn.params = #[24, t2]) (hr : fn.resultTypes = #[4])
    (walk : ∀ (W : World) (u : Value) (f : Fm) (x : Int), NodesAt W u f.nodes → FmOk f → (Lit.int k2 x).wf = true → Calls Tryz.prog F #[fmV u f, .int k2 x] W fun e w' => e = .returned (.bool true) ∧ Kept W w')
    {H : Type} {enc : TypeId × Value → H} (W : World) (base : Nat) (args : Array Value) (ds gs : List (DataW H)) (before : List MemPlace)
    (hval : ∀ (j : Nat) t v, fn.params[j]? = some t → args[j]? = some v → Value.okWide Tryz.prog W .any base t v)
    (hW : DataW.Whole enc Tryz.prog fn.params.toList s.vars false W args.toList ds gs before)
    (hsz : (DataW.weightsEach Tryz.prog (fn.params.toList ++ s.plain.varTypes Tryz.prog) (ds ++ gs)).all (· ≤ reachBytes) = true) :
    Calls Tryz.prog F args W fun e W' => ∃ v, e = .returned v ∧ s.post enc Tryz.prog fn false true false false W args v W' := by
  have hW' := hW
  obtain ⟨p, q, hA, hV, rfl, hfz, _⟩ := hW
  rw [hs1] at hV
  obtain ⟨rfl, rfl⟩ := trodVars_none hV
  rw [hp] at hA hval hsz
  obtain ⟨v0, v1, d0, d1, p0, p1, rfl, rfl, rfl, h0, h1⟩ := trodAll_two hA
  have h0k := h0
  have h1k := h1
  obtain ⟨u, f, rfl, hn, hok⟩ := fm_open (hval 0 _ _ rfl rfl) (fun n hn => by
    have := List.all_eq_true.1 hsz n (DataW.weights_mem_each (j := 0) rfl rfl n hn)
    simpa using this) h0
  obtain ⟨x, rfl, rfl, rfl, wx⟩ := open_int ht2 (hval 1 _ _ rfl rfl) h1
  have hlt : ∀ x ∈ p0, x.block < W.heap.size := fun x hx => hW'.lt x (by simp [hx])
  refine (walk W u f x hn hok wx).mono fun e W' ⟨he, hk⟩ => ?_
  subst he
  refine ⟨_, rfl, [d0, .lit (.int k2 x)], [], (p0 ++ []) ++ [], [], p0 ++ [], [], hW', ?_, ?_, ?_, Below.frame hk _, fun h => by cases h⟩
  · rw [hr]
    simp only [List.append_nil, hs2]
    exact trodAll_mk1 (shut_bool Tryz.underlying4 _)
  · rw [hp]
    simp only [List.append_nil, hs2]
    have := trodAll_mk2 (Below.trod laidOutK (by kernel_rfl) (of_decide_eq_true (by kernel_rfl)) h0k hk hlt) (Below.trod laidOutK hr2 hlt2 h1k hk (fun x hx => by cases hx))
    simpa using this
  · rw [hs1]
    simp only [List.append_nil, hs2]
    rfl
end Go.Proofs.YtngbjdaaogbjmaaGreat

/-
  Walks: formula.values.
-/
namespace Go.Proofs.YtngbjdaaogbjmaaGreat
open Go.RowKit

/-- A slice of bools of the call's own. -/
def OwnBools (w : World) (B : Nat) (v : Value) (bs : List Bool) : Prop := w.ownsRow B 4 1 v bs.length (bs.map Value.bool) ∧ bs.length ≤ 1000000
theorem OwnBools.kept {w w' : World} {B : Nat} {v : Value} {bs : List Bool} (h : OwnBools w B v bs) (hk : Kept w w') : OwnBools w' B v bs := ⟨own_kept h.1 hk, h.2⟩
theorem OwnBools.mono {w : World} {B B' : Nat} {v : Value} {bs : List Bool} (h : OwnBools w B v bs) (hb : B' ≤ B) : OwnBools w B' v bs := ⟨own_mono h.1 hb, h.2⟩
theorem OwnBools.shape {w : World} {B : Nat} {v : Value} {bs : List Bool} (h : OwnBools w B v bs) (h0 : bs ≠ []) : ∃ g cap, v = .slice (some ⟨g, 0, none⟩) bs.length cap ∧ B ≤ g ∧ g < w.heap.size ∧ bs.length ≤ cap := by
  obtain ⟨⟨_, h3⟩, _⟩ := h
  rcases h3 with ⟨_, h3⟩ | ⟨g, cap, cur, rfl, h4, h5, h6, _⟩
  · exact absurd (List.eq_nil_of_length_eq_zero h3) h0
  · exact ⟨g, cap, rfl, h4, heap_lt h5, h6⟩
theorem OwnBools.slice {w : World} {B : Nat} {v : Value} {bs : List Bool} (h : OwnBools w B v bs) : ∃ a c, v = .slice a bs.length c ∧ bs.length ≤ c := by
  obtain ⟨⟨_, h3⟩, _⟩ := h
  rcases h3 with ⟨rfl, h3⟩ | ⟨g, cap, cur, rfl, h4, h5, h6, _⟩
  · exact ⟨none, 0, by rw [h3], by omega⟩
  · exact ⟨_, cap, rfl, h6⟩
theorem OwnBools.cell {w : World} {B g n cap : Nat} {bs : List Bool} (h : OwnBools w B (.slice (some ⟨g, 0, none⟩) n cap) bs) (i : Nat) (hi : i < bs.length) : w.cell? ⟨g, i, none⟩ = some (.bool (bs.getD i false)) := by
  obtain ⟨⟨_, h6⟩, _⟩ := h
  rcases h6 with ⟨h6, _⟩ | ⟨g', cap', cur, h6, _, h7, h8, h9, h10, h11⟩
  · cases h6
  · cases h6
    have e1 : (cur.toList.take (bs.length * 1))[i]? = (bs.map Value.bool)[i]? := by rw [h11]
    rw [List.getElem?_take_of_lt (by omega)] at e1
    simp only [World.cell?, h7]
    simpa [hi, List.getD_eq_getElem?_getD] using e1
theorem OwnBools.free {w : World} {B g n cap : Nat} {bs : List Bool} (h : OwnBools w B (.slice (some ⟨g, 0, none⟩) n cap) bs) (i : Nat) : w.frozen? ⟨g, i, none⟩ = false := by
  obtain ⟨⟨_, h3⟩, _⟩ := h
  rcases h3 with ⟨h3, _⟩ | ⟨g', cap', cur, h3, _, h4, _⟩
  · cases h3
  · cases h3
    simp [World.frozen?, h4]
theorem OwnBools.store {w : World} {B g n cap : Nat} {bs : List Bool} (h : OwnBools w B (.slice (some ⟨g, 0, none⟩) n cap) bs) (hn : n = bs.length) (i : Nat) (b : Bool) : OwnBools (w.setCell ⟨g, i, none⟩ (.bool b)) B (.slice (some ⟨g, 0, none⟩) n cap) (bs.set i b) := by
  subst hn
  refine ⟨?_, by simpa using h.2⟩
  have := (h.1.stored i (.bool b)).1
  simpa [List.map_set] using this
theorem make_bools {ops : Array Oper} {rest : List Oper} {o : Oper} {a : Act} {Q : Exit → Act → World → Prop} {w : World} (hg : o.guard = none) (l c : Operand)
    (hop : o.op = Op.makeSlice 115 l c) (n m : Nat) (hl : a.eval l = .int .i64 n) (hc : a.eval c = .int .i64 m) (hnm : n ≤ m) (hb : m ≤ 1000000)
    (hK : ∀ w', OwnBools w' w.heap.size (.slice (some ⟨w.heap.size, 0, none⟩) n m) (List.replicate n false) → Kept w w' → w.heap.size < w'.heap.size → wpList Tryz.prog ops Q rest (a.put o.dst (.slice (some ⟨w.heap.size, 0, none⟩) n m)) w') : wpList Tryz.prog ops Q (o :: rest) a w := by
  obtain ⟨i0, hi0, hz0, hz1, hz2⟩ := info_parts info_bool
  refine wpList_plain hg fun K hK' => ?_
  have hrun := run_make (P := Tryz.prog) w 115 4 i0 _ Tryz.underlying115 hi0 hz0 .i64 .i64 n m (by omega) (by omega) (by rw [hz2]; omega) (by omega)
  simp only [Int.toNat_natCast] at hrun
  obtain ⟨w', hw'⟩ : ∃ w', w' = w.alloc (.cells (madeCells (Value.bool false).cells (m * i0.size)) 4) := ⟨_, rfl⟩
  rw [← hw'] at hrun
  unfold Oper.wp
  simp [execOp, hop, hl, hc, hrun, Result.andThen]
  subst hw'
  refine hK' _ _ (hK _ ?_ ((Kept.refl _).alloc _) (by simp))
  refine ⟨⟨by simp, .inr ⟨w.heap.size, m, _, by simp, Nat.le_refl _, heap_alloc_new w _, by simpa using hnm, by unfold maxLen; omega, by rw [size_madeCells, hz1], ?_⟩⟩, by simp; omega⟩
  simp only [hz1]
  rw [made_one _ rfl m]
  simp [List.take_replicate, Nat.min_eq_left hnm]
theorem app_bool {ops : Array Oper} {rest : List Oper} {o : Oper} {a : Act} {Q : Exit → Act → World → Prop} {w : World} (hgd : o.guard = none) (s x : Operand)
    (ho : o.op = .call { callee := .builtin .append, args := #[s, x], argTypes := #[115, 115] }) (B : Nat) (v : Value) (bs : List Bool) (hs : a.eval s = v) (hown : OwnBools w B v bs)
    (ad : Addr) (y : Bool) (hx : a.eval x = .slice (some ad) 1 1) (hc : w.cell? ad = some (.bool y)) (hl : bs.length < 1000000) (hB : B ≤ w.heap.size)
    (h : ∀ v' w', OwnBools w' B v' (bs ++ [y]) → Below B w w' → wpList Tryz.prog ops Q rest (a.put o.dst v') w') : wpList Tryz.prog ops Q (o :: rest) a w := by
  refine app_one 115 4 _ 1 info_bool Tryz.underlying115 rfl hgd s x ho B v (bs.map .bool) hs (by simpa using hown.1) ad _ hx hc rfl (by simp; omega) (by simp [maxLen]; omega) hB ?_
  intro v' w' h2 h3 h4
  exact h v' w' ⟨by simpa using h2, by simp; omega⟩ h4
theorem bit_val (s k : Nat) (hs : s < 16777216) : (bits .and .i64 ((s : Int) / 2 ^ k) 1 == 1) = s.testBit k := by
  have e : (s : Int) / 2 ^ k = ((s / 2 ^ k : Nat) : Int) := by simp
  have hle : s / 2 ^ k ≤ s := Nat.div_le_self _ _
  rw [e, show (1 : Int) = ((1 : Nat) : Int) from rfl, and_i64 _ _ (by omega) (by omega), Nat.testBit_eq_decide_div_mod_eq, Nat.and_one_is_mod]
  rw [Bool.eq_iff_iff]
  simp
  omega
theorem bits_step (V s k : Nat) (h : k < V) : ((List.range k).map (fun i => s.testBit i) ++ List.replicate (V - k) false).set k (s.testBit k) = (List.range (k + 1)).map (fun i => s.testBit i) ++ List.replicate (V - (k + 1)) false := by
  rw [List.set_append_right _ _ (by simp), show V - k = (V - (k + 1)) + 1 by omega, List.replicate_succ, List.range_succ]
  simp
/-- One node's value, by its kind. -/
theorem nodeV_cases {kind : Int} (h : 0 ≤ kind ∧ kind ≤ 5) : kind = 0 ∨ kind = 1 ∨ kind = 2 ∨ kind = 3 ∨ kind = 4 ∨ kind = 5 := by omega
end Go.Proofs.YtngbjdaaogbjmaaGreat

/-
  Walks: formula.check, Value, Values; slices.Clone at []bool.
-/
namespace Go.Proofs.YtngbjdaaogbjmaaGreat
open Go.RowKit

theorem shlW (V : Nat) (h : V ≤ 24) : wrap64 ((2 : Int) ^ V) = ((2 ^ V : Nat) : Int) := by
  have h1 : (2 : Nat) ^ V ≤ 2 ^ 24 := Nat.pow_le_pow_right (by omega) h
  rw [show (2 : Int) ^ V = ((2 ^ V : Nat) : Int) by simp]
  generalize (2 : Nat) ^ V = z at h1 ⊢
  unfold wrap64; omega
theorem lt_pow24 {V s : Nat} (h : V ≤ 24) (hs : s < 2 ^ V) : s < 16777216 := Nat.lt_of_lt_of_le hs (Nat.pow_le_pow_right (by omega) h : 2 ^ V ≤ 2 ^ 24)
/-- Bools that can be read. -/
def BoolsAt (w : World) (v : Value) (bs : List Bool) : Prop :=
  ∃ (a : Option Addr) (c : Nat), v = .slice a bs.length c ∧ bs.length ≤ c ∧ bs.length ≤ 1000000 ∧ ∀ i (_ : i < bs.length), ∃ b o, a = some ⟨b, o, none⟩ ∧ w.cell? ⟨b, o + i, none⟩ = some (.bool (bs.getD i false))
theorem BoolsAt.kept {w w' : World} {v : Value} {bs : List Bool} (h : BoolsAt w v bs) (hk : Kept w w') : BoolsAt w' v bs := by
  obtain ⟨a, c, h1, h2, h3, h4⟩ := h
  exact ⟨a, c, h1, h2, h3, fun i hi => let ⟨b, o, h5, h6⟩ := h4 i hi; ⟨b, o, h5, hk.cell h6⟩⟩
theorem OwnBools.at {w : World} {B : Nat} {v : Value} {bs : List Bool} (h : OwnBools w B v bs) : BoolsAt w v bs := by
  obtain ⟨a, c, rfl, hc⟩ := h.slice
  refine ⟨a, c, rfl, hc, h.2, fun i hi => ?_⟩
  obtain ⟨g, cap, hge, _⟩ := h.shape (by intro e; rw [e] at hi; simp at hi)
  injection hge with h1 h2 h3
  subst h1 h3
  exact ⟨g, 0, rfl, by simpa using h.cell i hi⟩
theorem own_emptyB (w : World) (B : Nat) (hB : B ≤ w.heap.size) : OwnBools (w.alloc (.cells #[] 4)) B (.slice (some ⟨w.heap.size, 0, none⟩) 0 0) [] :=
  ⟨⟨by simp, .inr ⟨w.heap.size, 0, #[], rfl, hB, heap_alloc_new w _, Nat.le_refl _, by unfold maxLen; omega, by simp, by simp⟩⟩, by simp⟩
/-- append of a whole slice of bools. -/
theorem app_bools {ops : Array Oper} {rest : List Oper} {o : Oper} {a : Act} {Q : Exit → Act → World → Prop} {w : World} (hgd : o.guard = none) (s x : Operand)
    (ho : o.op = .call { callee := .builtin .append, args := #[s, x], argTypes := #[115, 115] }) (B : Nat) (v : Value) (xs : List Bool) (hs : a.eval s = v) (hown : OwnBools w B v xs)
    (ad : Addr) (c : Nat) (ys : List Bool) (hx : a.eval x = .slice (some ad) ys.length c) (hu : BoolsAt w (.slice (some ad) ys.length c) ys) (hl : xs.length + ys.length ≤ 1000000) (hB : B ≤ w.heap.size)
    (h : ∀ v' w', OwnBools w' B v' (xs ++ ys) → Below B w w' → wpList Tryz.prog ops Q rest (a.put o.dst v') w') : wpList Tryz.prog ops Q (o :: rest) a w := by
  obtain ⟨i0, hi0, hz0, hz1, hz2⟩ := info_parts info_bool
  obtain ⟨a', c', h1, h2, h3, h4⟩ := hu
  cases h1
  refine wpList_append_own _ hgd s x 115 ho B 4 i0 _ 1 1 Tryz.underlying115 hi0 hz0 hz1 hz2 rfl (by decide) v xs.length _ hs hown.1 ad ys.length c (ys.map .bool) hx (by simp) ?_ ?_ (by simp [maxLen]; omega) (by omega) hB ?_
  · intro j u hj
    have hj' : j < ys.length := by
      rcases Nat.lt_or_ge j ys.length with h | h
      · exact h
      · rw [List.getElem?_eq_none (by simpa using h)] at hj; cases hj
    obtain ⟨b, o, h5, h6⟩ := h4 j hj'
    cases h5
    simp [hj'] at hj
    subst hj
    rw [show ({ block := b, off := o } : Addr).add j = ⟨b, o + j, none⟩ by unfold Addr.add; split <;> simp_all, h6]
    simp [List.getD_eq_getElem?_getD, hj']
  · intro u hu; obtain ⟨y, _, rfl⟩ := List.mem_map.1 hu; rfl
  · intro v' w' h5 h6 _
    exact h v' w' ⟨by simpa using h5, by simp; omega⟩ (grown_below h6 hown.1 hB)
/-- v[k:], k below the capacity. -/
theorem OwnBools.drop {w : World} {B g m cap : Nat} {bs : List Bool} (h : OwnBools w B (.slice (some ⟨g, 0, none⟩) m cap) bs) (k : Nat) (hk : k ≤ bs.length) : BoolsAt w (.slice (some ⟨g, k, none⟩) (bs.length - k) (cap - k)) (bs.drop k) := by
  obtain ⟨a', c', h1, h2⟩ := h.slice
  injection h1 with h3 h4 h5
  subst h4 h5
  refine ⟨some ⟨g, k, none⟩, cap - k, by simp, by simp; omega, by simp; have := h.2; omega, fun i hi => ?_⟩
  simp only [List.length_drop] at hi
  refine ⟨g, k, rfl, ?_⟩
  have := h.cell (k + i) (by omega)
  simpa [List.getD_eq_getElem?_getD] using this
end Go.Proofs.YtngbjdaaogbjmaaGreat
