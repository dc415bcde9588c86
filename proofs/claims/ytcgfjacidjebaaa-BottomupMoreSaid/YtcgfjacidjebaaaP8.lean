/-
  Plain: a formula in which an event is replaced by a constant, which is node 0; Restrict.
-/
import Derived.Test.YtcgfjacidjebaaaP7
namespace Go.Proofs.Ytcgfjacidjebaaa

def mvA (V e : Nat) (a : Int) : Int := if a = e then V else if a < V then a else a + 1
def mvN (V e : Nat) (x : Nd) : Nd := ⟨x.kind, x.k, x.args.map (mvA V e)⟩
def mvF (V e : Nat) (k : Int) (f : Fm) (T : Nat) : Fm := ⟨V, ⟨0, k, []⟩ :: f.nodes.map (mvN V e), mvA V e T⟩
theorem mvA_range {V e j : Nat} {a : Int} (h : 0 ≤ a ∧ a < (V : Int) + j) : 0 ≤ mvA V e a ∧ mvA V e a < (V : Int) + (j + 1 : Nat) := by
  unfold mvA; split
  · omega
  · split <;> omega
theorem mvA_inj {V e : Nat} {a b : Int} (h : mvA V e a = mvA V e b) : a = b := by
  unfold mvA at h
  split at h <;> split at h <;> (try split at h) <;> (try split at h) <;> omega
theorem chkNd_mk {b : Int} {x : Nd} (h1 : 0 ≤ x.kind ∧ x.kind ≤ 5) (h2 : argsOk x.kind x.args.length = true) (h3 : ∀ a ∈ x.args, 0 ≤ a ∧ a < b) (h4 : chkK x.kind x.k x.args.length = 0) : chkNd b x = 0 := by
  unfold chkNd
  rw [if_neg (by omega), if_neg (by rw [h2]; simp), if_neg, h4]
  rw [Bool.not_eq_false, List.all_eq_true]
  intro a ha
  exact decide_eq_true (h3 a ha)
theorem mv_chk {V T : Nat} {f : Fm} (hok : Ok f V T) (e : Nat) (k : Int) (hk : k = 0 ∨ k = 1) (hn : f.nodes.length ≤ 100) : chkF (mvF V e k f T) = 0 := by
  have hV := hok.v24
  have hT := hok.tlt
  unfold chkF
  have hlen : (mvF V e k f T).nodes.length = f.nodes.length + 1 := by simp [mvF]
  rw [if_neg (by show ¬ ((V : Int) < 0 ∨ 24 < (V : Int)); omega), if_neg (by rw [hlen]; omega)]
  rw [if_pos]
  · rw [if_pos]
    unfold okArg
    rw [decide_eq_true_eq, hlen]
    show 0 ≤ (V : Int) ∧ 0 ≤ mvA V e T ∧ (mvA V e T < V ∨ mvA V e T - V < _)
    have := mvA_range (V := V) (e := e) (j := f.nodes.length) (a := (T : Int)) (by omega)
    omega
  · refine chkFrom_none _ _ fun j hj => ?_
    cases j with
    | zero => exact chkNd_mk (by simp [mvF]) (by simp [mvF, argsOk]) (by simp [mvF]) (by simp [mvF, chkK, hk])
    | succ j =>
      have hj' : j < f.nodes.length := by rw [hlen] at hj; omega
      have e1 : (mvF V e k f T).nodes[j + 1] = mvN V e f.nodes[j] := by simp [mvF]
      rw [e1]
      refine chkNd_mk (hok.kind j hj') ?_ ?_ ?_
      · show argsOk f.nodes[j].kind (f.nodes[j].args.map _).length = true
        rw [List.length_map]; exact hok.argc j hj'
      · intro a ha
        obtain ⟨x, hx, rfl⟩ := List.mem_map.1 ha
        exact mvA_range (hok.args j hj' x hx)
      · show chkK f.nodes[j].kind f.nodes[j].k (f.nodes[j].args.map _).length = 0
        rw [List.length_map]; exact hok.arity j hj'
theorem mv_ok {V T : Nat} {f : Fm} (hok : Ok f V T) (e : Nat) (k : Int) (hk : k = 0 ∨ k = 1) (hn : f.nodes.length ≤ 100) : Ok (mvF V e k f T) V (mvA V e T).toNat := by
  obtain ⟨V', T', h⟩ := ok_of _ (mv_chk hok e k hk hn)
  have h1 : (V : Int) = (V' : Int) := h.vars
  have h2 : mvA V e T = (T' : Int) := h.top
  obtain rfl : V' = V := by omega
  rw [h2]
  simpa using h
/-- The marks of the moved formula are images of marks. -/
theorem mv_below {V T : Nat} {f : Fm} (hok : Ok f V T) (e : Nat) (k : Int) (he : e < V) : ∀ j (m' m : List Bool), j ≤ f.nodes.length → m.length = V + f.nodes.length →
    (∀ a : Nat, a < V + f.nodes.length → m'.getD (mvA V e a).toNat false = true → m.getD a false = true) →
    ∀ a : Nat, a < V + f.nodes.length → (belowGo V (mvF V e k f T).nodes (j + 1) m').getD (mvA V e a).toNat false = true → (belowGo V f.nodes j m).getD a false = true := by
  intro j
  induction j with
  | zero =>
    intro m' m _ _ h a ha
    unfold belowGo
    have e1 : (mvF V e k f T).nodes.getD 0 noNd = ⟨0, k, []⟩ := by simp [mvF]
    rw [e1]
    have : belowGo V (mvF V e k f T).nodes 0 (if m'.getD (V + 0) false = true then markAll m' [] else m') = m' := by
      show (if m'.getD (V + 0) false = true then m' else m') = m'
      split <;> rfl
    show (belowGo V (mvF V e k f T).nodes 0 (if m'.getD (V + 0) false = true then markAll m' [] else m')).getD (mvA V e a).toNat false = true → m.getD a false = true
    rw [this]
    exact h a ha
  | succ j ih =>
    intro m' m hj hm h a ha
    have hnd : f.nodes.getD j noNd = f.nodes[j] := by simp [List.getD_eq_getElem?_getD, show j < f.nodes.length by omega]
    have hnd' : (mvF V e k f T).nodes.getD (j + 1) noNd = mvN V e f.nodes[j] := by
      simp [mvF, List.getD_eq_getElem?_getD, show j < f.nodes.length by omega]
    show (belowGo V (mvF V e k f T).nodes (j + 1) (if m'.getD (V + (j + 1)) false then markAll m' ((mvF V e k f T).nodes.getD (j + 1) noNd).args else m')).getD (mvA V e a).toNat false = true →
      (belowGo V f.nodes j (if m.getD (V + j) false then markAll m (f.nodes.getD j noNd).args else m)).getD a false = true
    rw [hnd, hnd']
    refine ih _ _ (by omega) (by split; rw [len_markAll, hm]; exact hm) ?_ a ha
    intro b hb hmb
    by_cases hm1 : m'.getD (V + (j + 1)) false = true
    · have hm2 : m.getD (V + j) false = true := by
        refine h (V + j) (by omega) ?_
        rw [show (mvA V e ((V + j : Nat) : Int)).toNat = V + (j + 1) by unfold mvA; rw [if_neg (by omega), if_neg (by omega)]; omega]
        exact hm1
      rw [if_pos hm2]
      rw [if_pos hm1] at hmb
      by_cases hx : ∃ x ∈ f.nodes[j].args, x = (b : Int)
      · obtain ⟨x, hx, rfl⟩ := hx
        have := markAll_mem f.nodes[j].args m (b : Int) hx (by simp; omega)
        simpa using this
      · have hother := markAll_other (mvN V e f.nodes[j]).args m' (mvA V e b).toNat (by
          intro y hy hye
          obtain ⟨x, hx2, rfl⟩ := List.mem_map.1 hy
          have hr := hok.args j (by omega) x hx2
          have h1 := (mvA_range (e := e) hr).1
          have h2 := (mvA_range (V := V) (e := e) (j := f.nodes.length) (a := (b : Int)) (by omega)).1
          exact hx ⟨x, hx2, mvA_inj (V := V) (e := e) (by omega)⟩)
        rw [hother] at hmb
        exact markAll_keep _ _ _ (h b hb hmb)
    · rw [if_neg hm1] at hmb
      have := h b hb hmb
      split
      · exact markAll_keep _ _ _ this
      · exact this
theorem mv_marks {V T : Nat} {f : Fm} (hok : Ok f V T) (e : Nat) (k : Int) (he : e < V) (a : Nat) (ha : a < V + f.nodes.length) (h : (belowK V (mvA V e T).toNat (mvF V e k f T).nodes).getD (mvA V e a).toNat false = true) : (belowK V T f.nodes).getD a false = true := by
  have hT := hok.tlt
  unfold belowK at h ⊢
  have hlen : (mvF V e k f T).nodes.length = f.nodes.length + 1 := by simp [mvF]
  rw [hlen] at h
  refine mv_below hok e k he f.nodes.length _ _ (Nat.le_refl _) (by simp) ?_ a ha h
  intro b hb hm
  have h1 := (mvA_range (V := V) (e := e) (j := f.nodes.length) (a := (b : Int)) (by omega)).1
  have h2 := (mvA_range (V := V) (e := e) (j := f.nodes.length) (a := (T : Int)) (by omega)).1
  by_cases hbT : b = T
  · subst hbT
    rw [List.getD_eq_getElem?_getD, List.getElem?_set_self (by simp; omega)]; rfl
  · have hne : (mvA V e T).toNat ≠ (mvA V e b).toNat := fun hc => hbT (by
      have := mvA_inj (V := V) (e := e) (a := (T : Int)) (b := (b : Int)) (by omega)
      omega)
    rw [List.getD_eq_getElem?_getD, List.getElem?_set_ne hne] at hm
    have : (List.replicate (V + (f.nodes.length + 1)) false)[(mvA V e b).toNat]?.getD false = false := by
      rw [List.getElem?_replicate]; split <;> rfl
    rw [this] at hm
    cases hm
theorem kinds_all (V : Nat) (mark : List Bool) (nodes : List Nd) : ∀ k, k ≤ nodes.length → (∀ i (hi : i < nodes.length), i < k → mark.getD (V + i) false = true → nodes[i].kind ≠ 1 ∧ nodes[i].kind ≠ 5) → monoK (kindsUp V mark nodes k) = true := by
  intro k
  induction k with
  | zero => intro _ _; rfl
  | succ k ih =>
    intro hk h
    have h1 := ih (by omega) fun i hi hik => h i hi (by omega)
    unfold kindsUp
    split
    · rename_i hm
      have := h k (by omega) (by omega) hm
      rw [show nodes.getD k noNd = nodes[k] by simp [List.getD_eq_getElem?_getD, show k < nodes.length by omega]]
      unfold monoK at h1 ⊢
      rw [List.all_append, h1]
      simp [this.1, this.2]
    · exact h1
theorem mv_syn {V T : Nat} {f : Fm} (hok : Ok f V T) (hs : synK V T f = true) (e : Nat) (k : Int) (he : e < V) : synK V (mvA V e T).toNat (mvF V e k f T) = true := by
  unfold synK
  refine kinds_all V _ _ _ (Nat.le_refl _) fun i hi _ hm => ?_
  have hlen : (mvF V e k f T).nodes.length = f.nodes.length + 1 := by simp [mvF]
  cases i with
  | zero => simp [mvF]
  | succ i =>
    have hi' : i < f.nodes.length := by omega
    have e1 : (mvF V e k f T).nodes[i + 1] = mvN V e f.nodes[i] := by simp [mvF]
    rw [e1]
    show f.nodes[i].kind ≠ 1 ∧ f.nodes[i].kind ≠ 5
    have h2 := mv_marks hok e k he (V + i) (by omega) (by
      rw [show (mvA V e ((V + i : Nat) : Int)).toNat = V + (i + 1) by unfold mvA; rw [if_neg (by omega), if_neg (by omega)]; omega]
      exact hm)
    have := kind_mono hok hs i hi' h2
    omega
/-- s with the bit e put to b. -/
def putBit (s e : Nat) (b : Bool) : Nat := if b then s ||| 2 ^ e else sdiff s (2 ^ e)
theorem putBit_bit (s e : Nat) (b : Bool) (i : Nat) : (putBit s e b).testBit i = if i = e then b else s.testBit i := by
  unfold putBit sdiff
  cases b with
  | true =>
    simp only [if_true, Nat.testBit_or, Nat.testBit_two_pow]
    by_cases h : i = e
    · subst h; simp
    · rw [if_neg h]; simp [Ne.symm h]
  | false =>
    simp only [Bool.false_eq_true, if_false, Nat.testBit_xor, Nat.testBit_and, Nat.testBit_two_pow]
    by_cases h : i = e
    · subst h; simp
    · rw [if_neg h]; simp [Ne.symm h]
theorem getD_snoc (l : List Bool) (x : Bool) (i : Nat) (h : i = l.length) : (l ++ [x]).getD i false = x := by subst h; simp [List.getD_eq_getElem?_getD]
theorem mv_vals {V T : Nat} {f : Fm} (hok : Ok f V T) (e : Nat) (k : Int) (he : e < V) (s : Nat) : ∀ j, j ≤ f.nodes.length → ∀ a : Nat, a < V + j →
    (valsUp V s (mvF V e k f T).nodes (j + 1)).getD (mvA V e a).toNat false = (valsUp V (putBit s e (k == 1)) f.nodes j).getD a false := by
  intro j
  induction j with
  | zero =>
    intro _ a ha
    have haV : a < V := by omega
    rw [valsUp_event V _ f.nodes 0 a haV, putBit_bit]
    by_cases h : a = e
    · subst h
      rw [if_pos rfl, show (mvA V a (a : Int)).toNat = V by simp [mvA]]
      show (valsUp V s (mvF V a k f T).nodes 0 ++ [_]).getD V false = _
      rw [List.getD_eq_getElem?_getD, List.getElem?_append_right (by rw [len_valsUp]; omega), len_valsUp]
      simp [mvF, nodeV]
    · rw [if_neg h, show (mvA V e (a : Int)).toNat = a by unfold mvA; rw [if_neg (by omega), if_pos (by omega)]; omega]
      exact valsUp_event V s _ 1 a haV
  | succ j ih =>
    intro hj a ha
    have hjl : j < f.nodes.length := by omega
    by_cases haj : a < V + j
    · rw [valsUp_get V _ f.nodes j (j + 1) a haj (by omega), ← ih (by omega) a haj]
      have := (mvA_range (V := V) (e := e) (j := j) (a := (a : Int)) (by omega))
      exact valsUp_get V s _ (j + 1) (j + 1 + 1) _ (by omega) (by omega)
    · have e1 : a = V + j := by omega
      subst e1
      rw [show (mvA V e ((V + j : Nat) : Int)).toNat = V + (j + 1) by unfold mvA; rw [if_neg (by omega), if_neg (by omega)]; omega]
      show (valsUp V s (mvF V e k f T).nodes (j + 1) ++ [_]).getD (V + (j + 1)) false = (valsUp V (putBit s e (k == 1)) f.nodes j ++ [_]).getD (V + j) false
      rw [getD_snoc _ _ _ (len_valsUp V s (mvF V e k f T).nodes (j + 1)).symm, getD_snoc _ _ _ (len_valsUp V (putBit s e (k == 1)) f.nodes j).symm]
      have hnd : f.nodes.getD j noNd = f.nodes[j] := by simp [List.getD_eq_getElem?_getD, hjl]
      have hnd' : (mvF V e k f T).nodes.getD (j + 1) noNd = mvN V e f.nodes[j] := by simp [mvF, List.getD_eq_getElem?_getD, hjl]
      rw [hnd, hnd']
      have hcnt : ∀ bs : List Int, (∀ b ∈ bs, 0 ≤ b ∧ b < (V : Int) + j) → trueN (valsUp V s (mvF V e k f T).nodes (j + 1)) (bs.map (mvA V e)) = trueN (valsUp V (putBit s e (k == 1)) f.nodes j) bs := by
        intro bs
        induction bs with
        | nil => intro _; rfl
        | cons b bs ihb =>
          intro hb
          have h1 := hb b (List.mem_cons_self ..)
          simp only [List.map_cons, trueN]
          obtain ⟨B, rfl⟩ := Int.eq_ofNat_of_zero_le h1.1
          rw [ihb fun x hx => hb x (List.mem_cons_of_mem _ hx), ih (by omega) B (by omega)]
          simp
      simp only [mvN, hcnt f.nodes[j].args (hok.args j hjl), List.length_map]
/-- What Cuts answers says the value of Top. -/
theorem up_cutsK {V T : Nat} {f : Fm} (hok : Ok f V T) (hs : synK V T f = true) {l : List (List Nat)} (hl : famsK V T f.nodes = some l) (s : Nat) :
    up (if T < V then [2 ^ T] else l.getD (T - V) []) s ↔ (valsK V s f.nodes).getD T false = true := by
  by_cases h : T < V
  · rw [if_pos h]
    unfold valsK
    rw [valsUp_event V s f.nodes _ T h, ← pow_sub]
    constructor
    · rintro ⟨t, ht, h1⟩; simp at ht; subst ht; exact h1
    · intro h1; exact ⟨_, by simp, h1⟩
  · rw [if_neg h]
    have hT := hok.tlt
    have := up_famsK hok hs hl s (T - V) (by omega) (by
      rw [show V + (T - V) = T by omega]
      unfold belowK
      refine belowGo_keep V f.nodes _ _ T ?_
      rw [List.getD_eq_getElem?_getD, List.getElem?_set_self (by simp; omega)]; rfl)
    rw [show V + (T - V) = T by omega] at this
    exact this
theorem good_cuts {V T : Nat} {nodes : List Nd} {l : List (List Nat)} (hl : famsK V T nodes = some l) : Good (if T < V then [2 ^ T] else l.getD (T - V) []) := by
  split
  · exact good_one _
  · exact good_getD (good_famsUp V _ nodes nodes.length l hl) _
/-- Restrict. -/
def restrictK (l : List Nat) (fl wk : Nat) : List Nat := minK ((l.filter fun s => s &&& wk == 0).map fun s => sdiff s fl)
theorem sdiff_bit (a b i : Nat) : (sdiff a b).testBit i = (a.testBit i && !b.testBit i) := by
  unfold sdiff
  rw [Nat.testBit_xor, Nat.testBit_and]
  cases a.testBit i <;> cases b.testBit i <;> rfl
theorem restrict_failed (l : List Nat) (e s : Nat) : up (restrictK l (2 ^ e) 0) s ↔ up l (putBit s e true) := by
  unfold restrictK
  rw [up_minK]
  unfold up
  constructor
  · rintro ⟨t, ht, h⟩
    obtain ⟨x, hx, rfl⟩ := List.mem_map.1 ht
    refine ⟨x, (List.mem_filter.1 hx).1, subN_iff.2 fun i hi => ?_⟩
    rw [putBit_bit]
    split
    · rfl
    · rename_i hne
      refine subN_iff.1 h i ?_
      rw [sdiff_bit, hi, Nat.testBit_two_pow]
      simp [Ne.symm hne]
  · rintro ⟨x, hx, h⟩
    refine ⟨sdiff x (2 ^ e), List.mem_map.2 ⟨x, List.mem_filter.2 ⟨hx, by simp⟩, rfl⟩, subN_iff.2 fun i hi => ?_⟩
    rw [sdiff_bit, Nat.testBit_two_pow] at hi
    simp at hi
    have := subN_iff.1 h i hi.1
    rw [putBit_bit, if_neg (Ne.symm hi.2)] at this
    exact this
theorem restrict_working (l : List Nat) (e s : Nat) : up (restrictK l 0 (2 ^ e)) s ↔ up l (putBit s e false) := by
  unfold restrictK
  rw [up_minK]
  unfold up
  have hz : ∀ x : Nat, sdiff x 0 = x := fun x => by unfold sdiff; simp
  have hb : ∀ x : Nat, (x &&& 2 ^ e == 0) = !x.testBit e := by
    intro x
    rw [Bool.eq_iff_iff]
    simp only [beq_iff_eq, Bool.not_eq_true']
    constructor
    · intro h
      have : (x &&& 2 ^ e).testBit e = false := by rw [h]; simp
      simpa using this
    · intro h
      apply Nat.eq_of_testBit_eq
      intro i
      rw [Nat.testBit_and, Nat.testBit_two_pow]
      by_cases hi : e = i
      · subst hi; simp [h]
      · simp [hi]
  constructor
  · rintro ⟨t, ht, h⟩
    obtain ⟨x, hx, rfl⟩ := List.mem_map.1 ht
    rw [hz] at h
    obtain ⟨h1, h2⟩ := List.mem_filter.1 hx
    rw [hb] at h2
    refine ⟨x, h1, subN_iff.2 fun i hi => ?_⟩
    rw [putBit_bit, if_neg]
    · exact subN_iff.1 h i hi
    · intro hie; subst hie; rw [hi] at h2; cases h2
  · rintro ⟨x, hx, h⟩
    have hxe : x.testBit e = false := by
      cases hq : x.testBit e with
      | false => rfl
      | true =>
        have := subN_iff.1 h e hq
        rw [putBit_bit, if_pos rfl] at this
        cases this
    refine ⟨sdiff x 0, List.mem_map.2 ⟨x, List.mem_filter.2 ⟨hx, by rw [hb, hxe]; rfl⟩, rfl⟩, subN_iff.2 fun i hi => ?_⟩
    rw [hz] at hi
    have := subN_iff.1 h i hi
    rw [putBit_bit] at this
    split at this
    · cases this
    · exact this
/-- With the event replaced, the cut sets are the restricted ones. -/
theorem mv_cuts {V T : Nat} {f : Fm} (hok : Ok f V T) (hs : synK V T f = true) (e : Nat) (he : e < V) (hn : f.nodes.length ≤ 100) (k : Int) (hk : k = 0 ∨ k = 1) {l l' : List (List Nat)} (hl : famsK V T f.nodes = some l)
    (hl' : famsK V (mvA V e T).toNat (mvF V e k f T).nodes = some l') :
    (if (mvA V e T).toNat < V then [2 ^ (mvA V e T).toNat] else l'.getD ((mvA V e T).toNat - V) []) = restrictK (if T < V then [2 ^ T] else l.getD (T - V) []) (if k = 1 then 2 ^ e else 0) (if k = 1 then 0 else 2 ^ e) := by
  have hok' := mv_ok hok e k hk hn
  have hs' := mv_syn hok hs e k he
  refine can_eq (good_cuts hl').1 (by unfold restrictK; exact can_minK _) fun s => ?_
  have hT := hok.tlt
  have hlen : (mvF V e k f T).nodes.length = f.nodes.length + 1 := by simp [mvF]
  rw [up_cutsK hok' hs' hl' s]
  unfold valsK
  rw [hlen, mv_vals hok e k he s f.nodes.length (Nat.le_refl _) T hT]
  have h1 := up_cutsK hok hs hl (putBit s e (k == 1))
  unfold valsK at h1
  rw [← h1]
  rcases hk with rfl | rfl
  · simp only [show ¬ (0 : Int) = 1 by decide, if_false, show ((0 : Int) == 1) = false by decide]
    exact (restrict_working _ e s).symm
  · simp only [if_true, show ((1 : Int) == 1) = true by decide]
    exact (restrict_failed _ e s).symm
end Go.Proofs.Ytcgfjacidjebaaa
