/-
  Walks: sets.Valid, Cut, Has, Subset; slices.IndexFunc, ContainsFunc at []int.
-/
import Derived.Test.YtcgfjacidjebaaaB1
namespace Go.Proofs.Ytcgfjacidjebaaa
open Go.RowKit

theorem valid_any (s : Int) (w : World) : Calls Try.prog 61 #[.int .i64 s] w fun e w' => e = .returned (.bool (decide (0 ≤ s ∧ s ≤ 16777215))) ∧ w = w' := by
  by_cases h : 0 ≤ s
  · by_cases h2 : s ≤ 16777215
    all_goals
      go_enter Try.func61, Try.ntmps61
      go_wp2
      go_ret
      exact ⟨by simp [h, h2], rfl⟩
  · go_enter Try.func61, Try.ntmps61
    go_wp2
    go_ret
    exact ⟨by congr 2; simp; omega, rfl⟩
theorem cut_any (s : Int) (w : World) : Calls Try.prog 76 #[.int .i64 s] w fun e w' => e = .returned (.int .i64 (bits .and .i64 s 16777215)) ∧ w = w' := by
  go_enter Try.func76, Try.ntmps76
  go_wp2
  go_ret
  exact ⟨rfl, rfl⟩
def subB (a b : Int) : Bool := bits .andNot .i64 (bits .and .i64 a 16777215) b == 0
theorem subset_any (a b : Int) (w : World) : Calls Try.prog 43 #[.int .i64 a, .int .i64 b] w fun e w' => e = .returned (.bool (subB a b)) ∧ w = w' := by
  go_enter Try.func43, Try.ntmps43
  go_wp2_with (go_at_call 76; refine (cut_any _ _).mono ?_; rintro e w' ⟨rfl, rfl⟩)
  go_ret
  exact ⟨rfl, rfl⟩

/-- A function value that decides p, wherever it is called. -/
def Decides (g : Nat) (lb : Array Value) (p : Int → Bool) (w : World) : Prop :=
  ∀ (W : World) (x : Int), Kept w W → Calls Try.prog g (#[.int .i64 x] ++ lb) W fun e W' => e = .returned (.bool (p x)) ∧ Kept W W'

theorem contains_any (g : Nat) (lb : Array Value) (eg : ∀ args w, (callFunc g args).run Try.prog w = .ok (.enter g args) w) (p : Int → Bool) (v : Value) (xs : List Int) (w : World)
    (hp : Decides g lb p w) (hv : IntsAt w v xs) :
    Calls Try.prog 100 #[v, .func (.func g) #[] lb] w fun e w' => (∃ n : Int, e = .returned (.int .i64 n) ∧ (decide (0 ≤ n) = xs.any p)) ∧ Kept w w' := by
  obtain ⟨a, c, rfl, ⟨hc, _⟩, hl, hx⟩ := hv
  obtain ⟨n, hn⟩ : ∃ n, n = xs.length := ⟨_, rfl⟩
  have hbig : n ≤ 140737488355328 := by omega
  rw [← hn]
  have HX := Lib.hid hx
  have HN := Lib.hid hn
  have HP := Lib.hid hp
  clear hx hn hp hl hc
  go_enter Try.func100, Try.ntmps100
  go_wp2
  go_loopw [5, 8] (fun _ i wr => ∃ k : Nat, k ≤ n ∧ i = .int .i64 k ∧ Hid (∀ x ∈ xs.take k, p x = false) ∧ Kept w wr) (fun _ i _ => n - (intOf i).toNat)
  case atStart => exact ⟨0, Nat.zero_le _, rfl, Lib.hid (by simp), Kept.refl _⟩
  case round =>
    obtain ⟨k, hk, rfl, HF, hK⟩ := hrel
    by_cases hlt : k < n
    · have hkx : k < xs.length := by have := HN.out; omega
      obtain ⟨b, o, rfl, hcell⟩ := HX.out k hkx
      have hcell' := hK.cell hcell
      obtain ⟨x, hxx⟩ : ∃ x, x = xs[k] := ⟨_, rfl⟩
      rw [← hxx] at hcell hcell'
      have HXX := Lib.hid hxx
      clear hxx hcell
      cases hq : p x with
      | true =>
        have hcall := fun W h => HP.out W x h
        rw [hq] at hcall
        have HC := Lib.hid hcall
        clear hcall
        go_wp2_with (go_at_fn g; refine (HC.out _ hK).mono ?_; rintro e w' ⟨rfl, hK2⟩)
        go_ret
        refine ⟨⟨k, rfl, ?_⟩, hK.trans hK2⟩
        have : xs.any p = true := List.any_eq_true.2 ⟨x, by rw [HXX.out]; exact List.getElem_mem _, hq⟩
        rw [this]; simp
      | false =>
        have hcall := fun W h => HP.out W x h
        rw [hq] at hcall
        have HC := Lib.hid hcall
        clear hcall
        go_wp2_with (go_at_fn g; refine (HC.out _ hK).mono ?_; rintro e w' ⟨rfl, hK2⟩)
        go_roundw
        case rel =>
          refine ⟨k + 1, by omega, by go_num, Lib.hid ?_, hK.trans hK2⟩
          intro y hy
          rw [List.take_succ_eq_append_getElem hkx] at hy
          rcases List.mem_append.1 hy with hy | hy
          · exact HF.out y hy
          · simp at hy; rw [hy, ← HXX.out]; exact hq
        case measure => simp [intOf]; omega
    · go_wp2
      go_ret
      refine ⟨⟨-1, rfl, ?_⟩, hK⟩
      have hh := HF.out
      rw [List.take_of_length_le (by have := HN.out; omega)] at hh
      have : xs.any p = false := by rw [List.any_eq_false]; intro y hy; simp [hh y hy]
      rw [this]; rfl
end Go.Proofs.Ytcgfjacidjebaaa
