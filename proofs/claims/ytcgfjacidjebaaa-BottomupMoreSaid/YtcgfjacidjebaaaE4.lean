/-
  Walks: bottomup.node.
-/
import Derived.Test.YtcgfjacidjebaaaE3
namespace Go.Proofs.Ytcgfjacidjebaaa
open Go.RowKit

def nodeK (kind : Int) (k : Int) (fams : List (List Nat)) : Option (List Nat) :=
  if kind = 0 then (if k = 1 then some [0] else some []) else if kind = 3 then foldK plusK [] fams else if kind = 2 then foldK productK [0] fams else voteK fams k.toNat

set_option maxHeartbeats 1000000 in
theorem node_const (k : Int) (ua : Option Addr) (un uc : Nat) (v : Value) (fams : List (List Nat)) (w : World) :
    Calls Try.prog 54 #[.agg #[.int .i64 0, .int .i64 k, .slice ua un uc], v] w fun e w' => LRes w' 0 e (nodeK 0 k fams) ∧ Kept w w' := by
  by_cases h1 : k = 1
  · subst h1
    go_enter Try.func54, Try.ntmps54
    go_wp2
    go_ret2
    refine ⟨⟨_, rfl, ?_⟩, ((Kept.refl _).alloc _).alloc _⟩
    have := OwnSets.one (w.alloc (.cells #[.int .i64 0, .int .i64 1, .slice ua un uc] 47)) 0 0 (by unfold Mk; omega) (Nat.zero_le _)
    simpa using this
  · have b1 : (k == 1) = false := by simpa using h1
    have e : nodeK 0 k fams = some [] := by unfold nodeK; rw [if_pos rfl, if_neg h1]
    rw [e]
    clear e h1
    go_enter Try.func54, Try.ntmps54
    go_wp2
    go_ret2
    exact ⟨⟨_, rfl, OwnSets.nil _ _⟩, (Kept.refl _).alloc _⟩
set_option maxHeartbeats 1000000 in
theorem node_and (k : Int) (ua : Option Addr) (un uc : Nat) (v : Value) (fams : List (List Nat)) (w : World) (hv : FamsAt w v fams) (hne : fams ≠ []) :
    Calls Try.prog 54 #[.agg #[.int .i64 2, .int .i64 k, .slice ua un uc], v] w fun e w' => LRes w' 0 e (foldK productK [0] fams) ∧ Kept w w' := by
  have h : Calls Try.prog 79 #[v, .slice (some ⟨w.heap.size + 1, 0, none⟩) 1 1, .func (.func 44) #[] #[]] ((w.alloc (.cells #[.int .i64 2, .int .i64 k, .slice ua un uc] 47)).alloc (.cells #[.int .i64 0] 3)) fun e w' => LRes w' (w.heap.size + 2) e (foldK productK [0] fams) ∧ Kept ((w.alloc (.cells #[.int .i64 2, .int .i64 k, .slice ua un uc] 47)).alloc (.cells #[.int .i64 0] 3)) w' := by
    have := fold_any 44 (enters_of Try.func44 (by kernel_rfl) rfl) productK (fun a b va vb w h1 h2 => product_any a b va vb w h1 h2) v _ fams [0] ((w.alloc (.cells #[.int .i64 2, .int .i64 k, .slice ua un uc] 47)).alloc (.cells #[.int .i64 0] 3)) (hv.kept (((Kept.refl _).alloc _).alloc _)) (OwnSets.one (w.alloc (.cells #[.int .i64 2, .int .i64 k, .slice ua un uc] 47)) 0 0 (by unfold Mk; omega) (Nat.zero_le _)).sets hne
    simpa only [World.size_alloc] using this
  obtain ⟨r, hr⟩ : ∃ r, r = foldK productK [0] fams := ⟨_, rfl⟩
  rw [← hr] at h ⊢
  have H := Lib.hid h
  clear hr hv hne h
  cases r with
  | none =>
    go_enter Try.func54, Try.ntmps54
    go_wp2_with (go_at_call 79; refine H.out.mono ?_; rintro e w5 ⟨he, hk5⟩; unfold LRes at he; subst he; rw [errV_pos (show (4 : Nat) ≠ 0 by decide)])
    go_ret2
    exact ⟨rfl, (((Kept.refl _).alloc _).alloc _).trans hk5⟩
  | some l =>
    go_enter Try.func54, Try.ntmps54
    go_wp2_with (go_at_call 79; refine H.out.mono ?_; rintro e w5 ⟨⟨v5, rfl, ho5⟩, hk5⟩)
    go_ret2
    exact ⟨⟨_, rfl, ho5.mono (Nat.zero_le _)⟩, (((Kept.refl _).alloc _).alloc _).trans hk5⟩
set_option maxHeartbeats 1000000 in
theorem node_or (k : Int) (ua : Option Addr) (un uc : Nat) (v : Value) (fams : List (List Nat)) (w : World) (hv : FamsAt w v fams) (hne : fams ≠ []) :
    Calls Try.prog 54 #[.agg #[.int .i64 3, .int .i64 k, .slice ua un uc], v] w fun e w' => LRes w' 0 e (foldK plusK [] fams) ∧ Kept w w' := by
  have h : ∀ W, Kept w W → Calls Try.prog 79 #[v, .slice none 0 0, .func (.func 45) #[] #[]] W fun e w' => LRes w' W.heap.size e (foldK plusK [] fams) ∧ Kept W w' := fun W hk => fold_any 45 (enters_of Try.func45 (by kernel_rfl) rfl) plusK (fun a b va vb w h1 h2 => plus_any a b va vb w h1 h2) v _ fams [] W (hv.kept hk) (OwnSets.nil W 0).sets hne
  obtain ⟨r, hr⟩ : ∃ r, r = foldK plusK [] fams := ⟨_, rfl⟩
  rw [← hr] at h ⊢
  have H := Lib.hid h
  clear hr hv hne h
  cases r with
  | none =>
    go_enter Try.func54, Try.ntmps54
    go_wp2_with (go_at_call 79; refine (H.out _ ((Kept.refl _).alloc _)).mono ?_; rintro e w5 ⟨he, hk5⟩; unfold LRes at he; subst he; rw [errV_pos (show (4 : Nat) ≠ 0 by decide)])
    go_ret2
    exact ⟨rfl, ((Kept.refl _).alloc _).trans hk5⟩
  | some l =>
    go_enter Try.func54, Try.ntmps54
    go_wp2_with (go_at_call 79; refine (H.out _ ((Kept.refl _).alloc _)).mono ?_; rintro e w5 ⟨⟨v5, rfl, ho5⟩, hk5⟩)
    go_ret2
    exact ⟨⟨_, rfl, ho5.mono (Nat.zero_le _)⟩, ((Kept.refl _).alloc _).trans hk5⟩
set_option maxHeartbeats 1000000 in
theorem node_vote (k : Nat) (ua : Option Addr) (un uc : Nat) (v : Value) (fams : List (List Nat)) (w : World) (hv : FamsAt w v fams) (h1 : 1 ≤ k) (h2 : k ≤ fams.length) (hl : fams.length ≤ 1000) :
    Calls Try.prog 54 #[.agg #[.int .i64 4, .int .i64 k, .slice ua un uc], v] w fun e w' => LRes w' 0 e (voteK fams k) ∧ Kept w w' := by
  have h : ∀ W, Kept w W → Calls Try.prog 80 #[v, .int .i64 k] W fun e w' => LRes w' 0 e (voteK fams k) ∧ Kept W w' := fun W hk => vote_any v fams k W (hv.kept hk) h1 h2 hl
  obtain ⟨r, hr⟩ : ∃ r, r = voteK fams k := ⟨_, rfl⟩
  rw [← hr] at h ⊢
  have H := Lib.hid h
  clear hr hv h h1 h2 hl
  cases r with
  | none =>
    go_enter Try.func54, Try.ntmps54
    go_wp2_with (go_at_call 80; refine (H.out _ ((Kept.refl _).alloc _)).mono ?_; rintro e w5 ⟨he, hk5⟩; unfold LRes at he; subst he; rw [errV_pos (show (4 : Nat) ≠ 0 by decide)])
    go_ret2
    exact ⟨rfl, ((Kept.refl _).alloc _).trans hk5⟩
  | some l =>
    go_enter Try.func54, Try.ntmps54
    go_wp2_with (go_at_call 80; refine (H.out _ ((Kept.refl _).alloc _)).mono ?_; rintro e w5 ⟨⟨v5, rfl, ho5⟩, hk5⟩)
    go_ret2
    exact ⟨⟨_, rfl, ho5.mono (Nat.zero_le _)⟩, ((Kept.refl _).alloc _).trans hk5⟩
theorem node_any (kind k : Int) (ua : Option Addr) (un uc : Nat) (v : Value) (fams : List (List Nat)) (w : World) (hv : FamsAt w v fams) (hne : kind ≠ 0 → fams ≠ []) (h4 : kind = 4 → 1 ≤ k ∧ k ≤ fams.length) (hl : fams.length ≤ 1000)
    (hk : kind = 0 ∨ kind = 2 ∨ kind = 3 ∨ kind = 4) :
    Calls Try.prog 54 #[.agg #[.int .i64 kind, .int .i64 k, .slice ua un uc], v] w fun e w' => LRes w' 0 e (nodeK kind k fams) ∧ Kept w w' := by
  rcases hk with rfl | rfl | rfl | rfl
  · exact node_const k ua un uc v fams w
  · rw [show nodeK 2 k fams = foldK productK [0] fams by unfold nodeK; rw [if_neg (by decide), if_neg (by decide), if_pos rfl]]
    exact node_and k ua un uc v fams w hv (hne (by decide))
  · rw [show nodeK 3 k fams = foldK plusK [] fams by unfold nodeK; rw [if_neg (by decide), if_pos rfl]]
    exact node_or k ua un uc v fams w hv (hne (by decide))
  · obtain ⟨kk, hkk⟩ := Int.eq_ofNat_of_zero_le (show 0 ≤ k by have := h4 rfl; omega)
    subst hkk
    have h5 := h4 rfl
    rw [show nodeK 4 (kk : Int) fams = voteK fams kk by unfold nodeK; rw [if_neg (by decide), if_neg (by decide), if_neg (by decide)]; rfl]
    exact node_vote kk ua un uc v fams w hv (by omega) (by omega) hl
end Go.Proofs.Ytcgfjacidjebaaa
