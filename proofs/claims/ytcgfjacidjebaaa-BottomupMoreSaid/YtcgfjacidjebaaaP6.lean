/-
  Plain: all families are stored sorted, no set in another one, and not too long.
-/
import Derived.Test.YtcgfjacidjebaaaP5
namespace Go.Proofs.Ytcgfjacidjebaaa

def Good (l : List Nat) : Prop := Can l ∧ l.length ≤ 1024
theorem good_nil : Good [] := ⟨can_nil, by simp⟩
theorem good_one (x : Nat) : Good [x] := ⟨can_one x, by simp⟩
theorem good_plusK {a b l : List Nat} (h : plusK a b = some l) : Good l := ⟨can_plusK h, (plusK_some h).2⟩
theorem good_productK {a b l : List Nat} (h : productK a b = some l) : Good l := ⟨can_productK h, (productK_some h).2⟩
theorem product_zero {l : List Nat} (h : Good l) : productK [0] l = some l := by
  have e : minK (allU (minK [0]) (minK l)) = l := by
    refine (minK_of_up (r := l) fun s => ?_).trans h.1
    rw [up_allU, up_minK, up_minK]
    exact ⟨fun h => h.2, fun h => ⟨up_zero s, h⟩⟩
  unfold productK
  rw [if_pos ⟨by simp, h.2⟩, e, if_pos h.2]
theorem plus_nil {l : List Nat} (h : Good l) : plusK [] l = some l := by
  unfold plusK
  rw [if_pos ⟨by simp, h.2⟩, List.nil_append, h.1, if_pos h.2]
theorem good_fold (op : List Nat → List Nat → Option (List Nat)) (hop : ∀ a b l, op a b = some l → Good l) (args : List (List Nat)) : ∀ f l, Good f → foldK op f args = some l → Good l := by
  induction args with
  | nil => intro f l hf h; cases h; exact hf
  | cons a args ih =>
    intro f l hf h
    rw [foldK_cons] at h
    cases h1 : op f a with
    | none => rw [h1] at h; cases h
    | some g => rw [h1] at h; exact ih g l (hop _ _ _ h1) h
theorem good_voteUp (arg : List Nat) (t : List (List Nat)) : ∀ m acc, voteUp arg t m = some acc → ∀ l ∈ acc, Good l := by
  intro m
  induction m with
  | zero => intro acc h; cases h; intro l hl; simp at hl; subst hl; exact good_one 0
  | succ m ih =>
    intro acc h
    unfold voteUp at h
    cases h1 : voteUp arg t m with
    | none => rw [h1] at h; cases h
    | some a =>
      rw [h1] at h
      simp only [Option.bind_some] at h
      cases h2 : nextAt arg t m with
      | none => rw [h2] at h; cases h
      | some x =>
        rw [h2] at h
        cases h
        intro l hl
        rcases List.mem_append.1 hl with hl | hl
        · exact ih a h1 l hl
        · simp at hl
          subst hl
          unfold nextAt at h2
          cases h3 : productK arg (t.getD m []) with
          | none => rw [h3] at h2; cases h2
          | some p => rw [h3] at h2; exact good_plusK h2
theorem good_voteDown (k : Nat) (args : List (List Nat)) : ∀ q t r, (∀ l ∈ t, Good l) → voteDown k args q t = some r → ∀ l ∈ r, Good l := by
  intro q
  induction q with
  | zero => intro t r h e; cases e; exact h
  | succ q ih =>
    intro t r _ e
    unfold voteDown at e
    cases h1 : voteUp (args.getD q []) t k with
    | none => rw [h1] at e; cases e
    | some a => rw [h1] at e; exact ih a r (good_voteUp _ _ _ _ h1) e
theorem good_getD {t : List (List Nat)} (h : ∀ l ∈ t, Good l) (i : Nat) : Good (t.getD i []) := by
  rw [List.getD_eq_getElem?_getD]
  by_cases hi : i < t.length
  · rw [List.getElem?_eq_getElem hi]; exact h _ (List.getElem_mem hi)
  · rw [List.getElem?_eq_none (by omega)]; exact good_nil
theorem good_voteK {args : List (List Nat)} {k : Nat} {l : List Nat} (h : voteK args k = some l) : Good l := by
  unfold voteK at h
  cases h1 : voteDown k args args.length ([0] :: List.replicate k []) with
  | none => rw [h1] at h; cases h
  | some r =>
    rw [h1] at h
    cases h
    refine good_getD (good_voteDown k args _ _ r ?_ h1) k
    intro l hl
    rcases List.mem_cons.1 hl with e | e
    · rw [e]; exact good_one 0
    · rw [(List.mem_replicate.1 e).2]; exact good_nil
theorem good_nodeK {kind k : Int} {fams : List (List Nat)} {l : List Nat} (h : nodeK kind k fams = some l) : Good l := by
  unfold nodeK at h
  split at h
  · split at h
    · cases h; exact good_one 0
    · cases h; exact good_nil
  · split at h
    · exact good_fold _ (fun _ _ _ h => good_plusK h) _ _ _ good_nil h
    · split at h
      · exact good_fold _ (fun _ _ _ h => good_productK h) _ _ _ (good_one 0) h
      · exact good_voteK h
theorem good_famsUp (V : Nat) (mark : List Bool) (nodes : List Nd) : ∀ k out, famsUp V mark nodes k = some out → ∀ l ∈ out, Good l := by
  intro k
  induction k with
  | zero => intro out h; cases h; intro l hl; rw [(List.mem_replicate.1 hl).2]; exact good_nil
  | succ k ih =>
    intro out h
    unfold famsUp at h
    cases h1 : famsUp V mark nodes k with
    | none => rw [h1] at h; cases h
    | some o =>
      rw [h1] at h
      simp only [Option.bind_some, famStep] at h
      split at h
      · cases h2 : nodeK (nodes.getD k noNd).kind (nodes.getD k noNd).k ((nodes.getD k noNd).args.map (famArg V o)) with
        | none => rw [h2] at h; cases h
        | some l =>
          rw [h2] at h
          cases h
          intro x hx
          rcases List.mem_or_eq_of_mem_set hx with hx | hx
          · exact ih o h1 x hx
          · rw [hx]; exact good_nodeK h2
      · cases h; exact ih _ h1
theorem good_famArg {V : Nat} {out : List (List Nat)} (h : ∀ l ∈ out, Good l) (a : Int) : Good (famArg V out a) := by
  unfold famArg
  split
  · exact good_one _
  · exact good_getD h _
theorem fold_and_head {f : List Nat} (h : Good f) (fs : List (List Nat)) : foldK productK [0] (f :: fs) = foldK productK f fs := by rw [foldK_cons, product_zero h]; rfl
theorem fold_or_head {f : List Nat} (h : Good f) (fs : List (List Nat)) : foldK plusK [] (f :: fs) = foldK plusK f fs := by rw [foldK_cons, plus_nil h]; rfl
end Go.Proofs.Ytcgfjacidjebaaa
