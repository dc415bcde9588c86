/-
  Walks: slices.ContainsFunc; family.minimal.
-/
import Derived.Test.YtcgfjacidjebaaaB2
namespace Go.Proofs.Ytcgfjacidjebaaa
open Go.RowKit

theorem has_any (g : Nat) (lb : Array Value) (eg : ∀ args w, (callFunc g args).run Try.prog w = .ok (.enter g args) w) (p : Int → Bool) (v : Value) (xs : List Int) (w : World)
    (hp : Decides g lb p w) (hv : IntsAt w v xs) :
    Calls Try.prog 72 #[v, .func (.func g) #[] lb] w fun e w' => e = .returned (.bool (xs.any p)) ∧ Kept w w' := by
  have h := contains_any g lb eg p v xs w hp hv
  have H := Lib.hid h
  clear h hp hv eg
  obtain ⟨r, hr⟩ : ∃ r, r = xs.any p := ⟨_, rfl⟩
  rw [← hr] at H ⊢
  clear hr
  go_enter Try.func72, Try.ntmps72
  go_wp2_with (go_at_call 100; refine H.out.mono ?_; rintro e w' ⟨⟨n, rfl, hn⟩, hK⟩; have HN := Lib.hid hn; clear hn)
  go_ret
  exact ⟨by rw [← HN.out]; rfl, hK⟩

theorem decides_sub (s : Int) (B : Nat) (w : World) (hc : w.cell? ⟨B, 0, none⟩ = some (.int .i64 s)) : Decides 84 #[.pointer (some ⟨B, 0, none⟩)] (fun t => subB t s) w := by
  intro W x hK
  have hc' := hK.cell hc
  clear hc
  go_enter Try.func84, Try.ntmps84
  go_wp2_with (go_at_call 43; refine (subset_any _ _ _).mono ?_; rintro e w' ⟨rfl, rfl⟩)
  go_ret
  exact ⟨rfl, Kept.refl _⟩

def keepMin (out : List Int) (s : Int) : List Int := if out.any (fun t => subB t s) then out else out ++ [s]
def minOf (l : List Int) : List Int := l.foldl keepMin []
theorem keepMin_len (l : List Int) : ∀ out, (l.foldl keepMin out).length ≤ out.length + l.length := by
  induction l with
  | nil => intro out; simp
  | cons s l ih =>
    intro out
    simp only [List.foldl_cons, List.length_cons]
    refine Nat.le_trans (ih _) ?_
    unfold keepMin
    split <;> simp <;> omega
theorem minOf_take (l : List Int) (k : Nat) (h : k < l.length) : minOf (l.take (k + 1)) = keepMin (minOf (l.take k)) l[k] := by
  unfold minOf
  rw [List.take_succ_eq_append_getElem h, List.foldl_append]; rfl

theorem minimal_any (v : Value) (w : World) (xs : List Int) (hx : xs.length ≤ 8796093022208)
    (hs : Calls Try.prog 75 #[v] w fun e w' => ∃ v', e = .returned v' ∧ IntsAt w' v' xs ∧ Kept w w') :
    Calls Try.prog 62 #[v] w fun e w' => ∃ v', e = .returned v' ∧ OwnInts w' w.heap.size v' (minOf xs) ∧ Kept w w' := by
  have HS := Lib.hid hs
  clear hs
  obtain ⟨n, hn⟩ : ∃ n, n = xs.length := ⟨_, rfl⟩
  rw [← hn] at hx
  have HN := Lib.hid hn
  clear hn
  go_enter Try.func62, Try.ntmps62
  go_wp2_with (go_at_call 75; refine HS.out.mono ?_; rintro e w1 ⟨v', rfl, hI, hK1⟩; obtain ⟨a, c, rfl, ⟨hc, _⟩, hl, hcell⟩ := hI; have HX := Lib.hid hcell; clear hcell hc hl; rw [← HN.out])
  go_loopw [3, 9] (fun v i wr => ∃ k : Nat, k ≤ n ∧ i = .int .i64 k ∧ OwnInts wr w1.heap.size v (minOf (xs.take k)) ∧ Kept w1 wr) (fun _ i _ => n - (intOf i).toNat)
  case atStart => exact ⟨0, Nat.zero_le _, rfl, OwnInts.nil _ _, Kept.refl _⟩
  case round =>
    obtain ⟨k, hk, rfl, hown, hK⟩ := hrel
    have hB := hK.size
    by_cases hlt : k < n
    · have hkx : k < xs.length := by have := HN.out; omega
      obtain ⟨b, o, rfl, hc0⟩ := HX.out k hkx
      have hcell := hK.cell hc0
      obtain ⟨s, hs⟩ : ∃ x, x = xs[k] := ⟨_, rfl⟩
      rw [← hs] at hcell hc0
      have hstep := minOf_take xs k hkx
      rw [← hs] at hstep
      have hlen := keepMin_len (xs.take k) []
      obtain ⟨m, hm⟩ : ∃ m, m = minOf (xs.take k) := ⟨_, rfl⟩
      have hml : m.length ≤ k := by rw [hm]; refine Nat.le_trans hlen ?_; simp; omega
      rw [← hm] at hown hstep
      have HSt := Lib.hid hstep
      clear hstep hlen hs hm hc0
      have HO := Lib.hid hown
      clear hown
      cases hq : m.any (fun t => subB t s) with
      | true =>
        have HQ := Lib.hid hq
        clear hq
        go_wp2_with (go_at_call 72; refine (has_any _ _ (enters_of Try.func84 (by kernel_rfl) rfl) _ _ m _ (decides_sub s _ _ (by simp)) ((HO.out.kept ((Kept.refl _).alloc _)).ints)).mono ?_; rintro e w2 ⟨rfl, hK2⟩; rw [HQ.out])
        go_roundw
        case rel => exact ⟨k + 1, by omega, by go_num, by rw [HSt.out, keepMin, HQ.out]; exact HO.out.kept (((Kept.refl _).alloc _).trans hK2), hK.trans (((Kept.refl _).alloc _).trans hK2)⟩
        case measure => simp [intOf]; omega
      | false =>
        have HQ := Lib.hid hq
        clear hq
        go_wp2_with (first
          | (go_at_call 72; refine (has_any _ _ (enters_of Try.func84 (by kernel_rfl) rfl) _ _ m _ (decides_sub s _ _ (by simp)) ((HO.out.kept ((Kept.refl _).alloc _)).ints)).mono ?_; rintro e w2 ⟨rfl, hK2⟩; rw [HQ.out]; have hbox := hK2.cell (p := ⟨wr.heap.size, 0, none⟩) (v := .int .i64 s) (by simp); have hz := hK2.size)
          | (at_builtin; refine app_int rfl _ _ rfl w1.heap.size _ m rfl (HO.out.kept ((((Kept.refl _).alloc _).trans hK2).alloc _)) _ s rfl (by simp) (by omega) (by simp at hz ⊢; omega) ?_; intro v' w3 hown3 hg3 hb3))
        go_roundw
        case rel => exact ⟨k + 1, by omega, by go_num, by rw [HSt.out, keepMin, HQ.out]; exact hown3, (hK.trans ((((Kept.refl _).alloc _).trans hK2).alloc _)).app hb3⟩
        case measure => simp [intOf]; omega
    · go_wp2
      go_ret
      have e : k = n := by omega
      subst e
      rw [List.take_of_length_le (by have := HN.out; omega)] at hown
      exact ⟨_, rfl, hown.mono hK1.size, hK1.trans hK⟩
end Go.Proofs.Ytcgfjacidjebaaa
