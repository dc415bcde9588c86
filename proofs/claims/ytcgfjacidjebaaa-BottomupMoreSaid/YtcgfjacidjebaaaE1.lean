/-
  Rows of families; walk: bottomup.fold.
-/
import Derived.Test.YtcgfjacidjebaaaB10
import Derived.Test.YtcgfjacidjebaaaD4
namespace Go.Proofs.Ytcgfjacidjebaaa
open Go.RowKit

/-- Families in memory: a slice of slices of masks. -/
def FamsAt (w : World) (v : Value) (xss : List (List Nat)) : Prop := RowsAt SetsAt w v xss
theorem FamsAt.kept {w w' : World} {v : Value} {xss : List (List Nat)} (h : FamsAt w v xss) (hk : Kept w w') : FamsAt w' v xss :=
  RowsAt.kept (fun _ _ _ _ h k => h.kept k) h hk
/-- Families of the call's own, their rows too. -/
def OwnFams (w : World) (B : Nat) (v : Value) (xss : List (List Nat)) : Prop :=
  ∃ us : List Value, us.length = xss.length ∧ w.ownsRow B 27 1 v xss.length us ∧ xss.length ≤ 140737488355328 ∧ ∀ i (h : i < us.length) (h' : i < xss.length), OwnSets w 0 us[i] xss[i]
theorem OwnFams.at {w : World} {B : Nat} {v : Value} {xss : List (List Nat)} (h : OwnFams w B v xss) : FamsAt w v xss := by
  obtain ⟨us, h1, ⟨h2, h3⟩, h4, h5⟩ := h
  rcases h3 with ⟨rfl, h6⟩ | ⟨g, cap, cur, rfl, h6, h7, h8, h9, h10, h11⟩
  · have : xss = [] := List.eq_nil_of_length_eq_zero h6
    subst this
    exact ⟨none, 0, rfl, ⟨by simp, fun _ => rfl⟩, by simp, fun i h => by simp at h⟩
  · refine ⟨_, cap, rfl, ⟨h8, fun h => by cases h⟩, h4, fun i hi => ⟨g, 0, us[i]'(by omega), rfl, ?_, (h5 i (by omega) hi).sets⟩⟩
    have e1 : (cur.toList.take (xss.length * 1))[i]? = us[i]? := by rw [h11]
    rw [List.getElem?_take_of_lt (by omega)] at e1
    simp only [World.cell?, h7, Nat.zero_add]
    simpa [h1, hi] using e1
theorem OwnFams.kept {w w' : World} {B : Nat} {v : Value} {xss : List (List Nat)} (h : OwnFams w B v xss) (hk : Kept w w') : OwnFams w' B v xss := by
  obtain ⟨us, h1, h2, h3, h4⟩ := h
  exact ⟨us, h1, own_kept h2 hk, h3, fun i h h' => (h4 i h h').kept hk⟩
theorem OwnFams.nil (w : World) (B : Nat) : OwnFams w B (.slice none 0 0) [] := ⟨[], rfl, World.ownsRow_nil _ _ _ _, by simp, fun i h => by simp at h⟩
/-- A row of one type stays while a row of another type is written. -/
theorem own_tag {w w' : World} {B : Nat} {e e' : TypeId} {size size' n n' B' : Nat} {v v' : Value} {xs xs' : List Value} (h : w.ownsRow B e size v n xs) (h' : w.ownsRow B' e' size' v' n' xs') (hne : e ≠ e')
    (hg : ∀ k, k < w.heap.size → some k ≠ v'.ownBlock → w'.heap[k]? = w.heap[k]?) : w'.ownsRow B e size v n xs := by
  obtain ⟨h1, h2⟩ := h
  refine ⟨h1, h2.imp id ?_⟩
  rintro ⟨g, cap, cur, rfl, h5, h6, h7⟩
  refine ⟨g, cap, cur, rfl, h5, (hg g (heap_lt h6) ?_).trans h6, h7⟩
  intro e
  obtain ⟨_, ⟨rfl, _⟩ | ⟨g2, cap2, cur2, rfl, _, h8, _⟩⟩ := h'
  · cases e
  · cases e
    rw [h8] at h6
    cases h6
    exact hne rfl
theorem OwnSets.tag {w w' : World} {B : Nat} {e' : TypeId} {size' n' B' : Nat} {v v' : Value} {ns : List Nat} {xs' : List Value} (h : OwnSets w B v ns) (h' : w.ownsRow B' e' size' v' n' xs') (hne : 3 ≠ e')
    (hg : ∀ k, k < w.heap.size → some k ≠ v'.ownBlock → w'.heap[k]? = w.heap[k]?) : OwnSets w' B v ns := ⟨⟨own_tag h.1.1 h' hne hg, h.1.2⟩, h.2⟩
/-- append of one family. -/
theorem app_fam {ops : Array Oper} {rest : List Oper} {o : Oper} {a : Act} {Q : Exit → Act → World → Prop} {w : World} (hgd : o.guard = none) (s x : Operand)
    (ho : o.op = .call { callee := .builtin .append, args := #[s, x], argTypes := #[37, 37] }) (B : Nat) (v : Value) (xss : List (List Nat)) (hs : a.eval s = v) (hown : OwnFams w B v xss)
    (ad : Addr) (u : Value) (ys : List Nat) (hx : a.eval x = .slice (some ad) 1 1) (hc : w.cell? ad = some u) (hu : OwnSets w 0 u ys) (hl : xss.length < 1000000) (hB : B ≤ w.heap.size)
    (h : ∀ v' w', OwnFams w' B v' (xss ++ [ys]) → w.grownBy w' v.ownBlock → Below B w w' → wpList Try.prog ops Q rest (a.put o.dst v') w') : wpList Try.prog ops Q (o :: rest) a w := by
  obtain ⟨us, h1, h2, h3, h4⟩ := hown
  obtain ⟨ua, un, uc, rfl⟩ := hu.1.ints.shape
  refine app_one 37 27 _ 24 info_ints Try.underlying37 rfl hgd s x ho B v us hs (by rw [h1]; exact h2) ad _ hx hc rfl (by omega) (by simp [maxLen]; omega) hB ?_
  intro v' w' h5 h6 h7
  refine h v' w' ⟨us ++ [.slice ua un uc], by simp [h1], by simpa [h1] using h5, by simp; omega, ?_⟩ h6 h7
  intro i hi hi'
  by_cases hik : i < us.length
  · rw [List.getElem_append_left hik, List.getElem_append_left (by omega)]
    exact (h4 i hik (by omega)).tag h2 (by decide) (fun k hk hne => h6.block k hk hne)
  · have e : i = us.length := by simp at hi; omega
    subst e
    rw [List.getElem_append_right (Nat.le_refl _), List.getElem_append_right (by omega)]
    simp only [Nat.sub_self, h1, List.getElem_cons_zero]
    exact hu.tag h2 (by decide) (fun k hk hne => h6.block k hk hne)

def foldK (op : List Nat → List Nat → Option (List Nat)) (first : List Nat) (args : List (List Nat)) : Option (List Nat) := args.foldlM op first
theorem foldK_snoc (op : List Nat → List Nat → Option (List Nat)) (first : List Nat) (args : List (List Nat)) (k : Nat) (h : k < args.length) : foldK op first (args.take (k + 1)) = (foldK op first (args.take k)).bind fun l => op l args[k] := by
  unfold foldK
  rw [List.take_succ_eq_append_getElem h, List.foldlM_append]
  simp [Option.bind_eq_bind]
theorem foldK_none (op : List Nat → List Nat → Option (List Nat)) (first : List Nat) (args : List (List Nat)) (k : Nat) (h : foldK op first (args.take k) = none) : foldK op first args = none := by
  unfold foldK at *
  rw [← List.take_append_drop k args, List.foldlM_append, h]; rfl

/-- A function value that joins two lists of sets. -/
def Joins (g : Nat) (op : List Nat → List Nat → Option (List Nat)) : Prop :=
  ∀ (a b : List Nat) (va vb : Value) (w : World), SetsAt w va a → SetsAt w vb b → Calls Try.prog g #[va, vb] w fun e w' => LRes w' w.heap.size e (op a b) ∧ Kept w w'
set_option maxHeartbeats 4000000 in
theorem fold_any (g : Nat) (eg : ∀ args w, (callFunc g args).run Try.prog w = .ok (.enter g args) w) (op : List Nat → List Nat → Option (List Nat)) (hop : Joins g op) (v vf : Value) (args : List (List Nat)) (first : List Nat) (w : World)
    (hv : FamsAt w v args) (hf : SetsAt w vf first) (hne : args ≠ []) :
    Calls Try.prog 79 #[v, vf, .func (.func g) #[] #[]] w fun e w' => LRes w' w.heap.size e (foldK op first args) ∧ Kept w w' := by
  obtain ⟨a, c, rfl, _, hl, hx⟩ := hv
  obtain ⟨n, hn⟩ : ∃ n, n = args.length := ⟨_, rfl⟩
  rw [← hn] at hl ⊢
  have hpos : 0 < n := by rw [hn]; exact List.length_pos_iff.2 hne
  obtain ⟨r, hr⟩ : ∃ r, r = foldK op first args := ⟨_, rfl⟩
  rw [← hr]
  have HR := Lib.hid hr
  have HX := Lib.hid hx
  have HN := Lib.hid hn
  have HOP := Lib.hid hop
  have HF := Lib.hid hf
  clear hx hn hop hr hf hne
  go_enter Try.func79, Try.ntmps79
  go_wp2
  go_loopw [8, 10, 11, 12, 16] (fun out _ _ _ i wr => ∃ (k : Nat) (l : List Nat), k ≤ n ∧ i = .int .i64 k ∧ Hid (foldK op first (args.take k) = some l ∧ SetsAt wr out l ∧ (0 < k → OwnSets wr w.heap.size out l)) ∧ Kept w wr) (fun _ _ _ _ i _ => n - (intOf i).toNat)
  case atStart => exact ⟨0, first, Nat.zero_le _, rfl, Lib.hid ⟨rfl, HF.out, fun h => absurd h (by omega)⟩, Kept.refl _⟩
  case round =>
    obtain ⟨k, l, hk, rfl, HL, hK⟩ := hrel
    by_cases hlt : k < n
    · have hkx : k < args.length := by have := HN.out; omega
      obtain ⟨b, o, u, rfl, hc0, hu⟩ := HX.out k hkx
      have hcell := hK.cell hc0
      have hcall := HOP.out l args[k] u8 u wr HL.out.2.1 (hu.kept hK)
      have hstep := foldK_snoc op first args k hkx
      rw [HL.out.1] at hstep
      simp only [Option.bind_some] at hstep
      have HC := Lib.hid hcall
      have HS := Lib.hid hstep
      have hz := hK.size
      clear hc0 hu hcall hstep
      obtain ⟨q, hq⟩ : ∃ q, q = op l args[k] := ⟨_, rfl⟩
      rw [← hq] at HC HS
      cases q with
      | none =>
        have hrn : r = none := by rw [HR.out]; exact foldK_none op first args (k + 1) HS.out
        have HRN := Lib.hid hrn
        clear hrn hq
        go_wp2_with (go_at_fn g; refine HC.out.mono ?_; rintro e w2 ⟨he, hk2⟩; unfold LRes at he; subst he; rw [errV_pos (show (4 : Nat) ≠ 0 by decide)])
        go_ret2
        exact ⟨by rw [HRN.out]; rfl, hK.trans hk2⟩
      | some l2 =>
        clear hq
        go_wp2_with (go_at_fn g; refine HC.out.mono ?_; rintro e w2 ⟨⟨v2, rfl, ho2⟩, hk2⟩; have O2 := Lib.hid ho2; clear ho2)
        go_roundw
        case rel => exact ⟨k + 1, l2, by omega, by go_num, Lib.hid ⟨HS.out, O2.out.sets, fun _ => O2.out.mono hz⟩, hK.trans hk2⟩
        case measure => simp [intOf]; omega
    · have e : k = n := by omega
      have h1 := HL.out.1
      rw [List.take_of_length_le (by have := HN.out; omega), ← HR.out] at h1
      have h2 := HL.out.2.2 (by omega)
      have H1 := Lib.hid h1
      have H2 := Lib.hid h2
      clear h1 h2 e
      go_wp2
      go_ret2
      exact ⟨by rw [H1.out]; exact ⟨_, rfl, H2.out⟩, hK⟩
end Go.Proofs.Ytcgfjacidjebaaa
