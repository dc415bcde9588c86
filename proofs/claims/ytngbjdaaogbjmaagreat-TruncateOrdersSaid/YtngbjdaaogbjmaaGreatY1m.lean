import Derived.Test.YtngbjdaaogbjmaaGreatK3
import Derived.Test.YtngbjdaaogbjmaaGreatK4
/-
  Plain: the top-down search with a limit: rows beyond it go to the frontier.
-/
namespace Go.Proofs.YtngbjdaaogbjmaaGreat

/-- Rows beyond the limit are taken out; the least of the others stay. -/
def settleR (P : Nat → Bool) (M : List Nat) : List Nat := minK (M.filter fun r => !P (evW r))
def settleF (P : Nat → Bool) (M F : List Nat) : List Nat := minK (F ++ (M.filter fun r => P (evW r)).map evW)
def settleK (P : Nat → Bool) (M F : List Nat) : Option (List Nat × List Nat) :=
  if (settleR P M).length ≤ 1024 ∧ (settleF P M F).length ≤ 1024 then some (settleR P M, settleF P M F) else none
def runT (V : Nat) (P : Nat → Bool) (nodes : List Nd) : Nat → List Nat → List Nat → Option (List Nat × List Nat)
  | 0, R, F => some (R, F)
  | i + 1, R, F =>
    if R.any (fun r => r.testBit (24 + i)) = true then
      if (expK V (nodes.getD i noNd) i R).length ≤ 4096 then
        (settleK P (expK V (nodes.getD i noNd) i R) F).bind fun p => runT V P nodes i p.1 p.2
      else none
    else runT V P nodes i R F
def topT (V T : Nat) (P : Nat → Bool) (nodes : List Nd) : Option (List Nat × List Nat) :=
  (settleK P [cond V T] []).bind fun p => runT V P nodes nodes.length p.1 p.2

theorem settleK_some {P : Nat → Bool} {M F : List Nat} {p : List Nat × List Nat} (h : settleK P M F = some p) : p = (settleR P M, settleF P M F) ∧ (settleR P M).length ≤ 1024 ∧ (settleF P M F).length ≤ 1024 := by
  unfold settleK at h
  split at h
  · cases h; exact ⟨rfl, by assumption⟩
  · cases h
theorem mem_settleR {P : Nat → Bool} {M : List Nat} {r : Nat} (h : r ∈ settleR P M) : r ∈ M ∧ P (evW r) = false := by
  have := List.mem_filter.1 (mem_minK h)
  simpa using this
theorem mem_settleF {P : Nat → Bool} {M F : List Nat} {t : Nat} (h : t ∈ settleF P M F) : t ∈ F ∨ ∃ r ∈ M, P (evW r) = true ∧ t = evW r := by
  rcases List.mem_append.1 (mem_minK h) with h | h
  · exact .inl h
  · obtain ⟨r, hr, rfl⟩ := List.mem_map.1 h
    have := List.mem_filter.1 hr
    exact .inr ⟨r, this.1, this.2, rfl⟩
/-- What a state satisfies: its own events at least. -/
theorem sat_ev {V s : Nat} {nodes : List Nd} {r : Nat} (h : sat (holdsP V s nodes) r) : subN (evW r) s = true := subN_iff.2 fun i hi => by
  rw [evW_bit] at hi
  simp only [Bool.and_eq_true, decide_eq_true_eq] at hi
  have := h i hi.2
  unfold holdsP at this
  rw [if_pos hi.1] at this
  exact this
theorem settle_says {V s : Nat} {nodes : List Nd} (P : Nat → Bool) (M F : List Nat) :
    (upP (settleR P M) (holdsP V s nodes) → upP M (holdsP V s nodes)) ∧ (upP M (holdsP V s nodes) → upP (settleR P M) (holdsP V s nodes) ∨ up (settleF P M F) s) ∧ (up F s → up (settleF P M F) s) := by
  refine ⟨fun h => ?_, fun h => ?_, fun h => ?_⟩
  · unfold settleR at h
    rw [upP_minK] at h
    obtain ⟨t, ht, hs⟩ := h
    exact ⟨t, (List.mem_filter.1 ht).1, hs⟩
  · obtain ⟨t, ht, hs⟩ := h
    cases hp : P (evW t) with
    | false =>
      left
      unfold settleR
      rw [upP_minK]
      exact ⟨t, List.mem_filter.2 ⟨ht, by simp [hp]⟩, hs⟩
    | true =>
      right
      unfold settleF
      rw [up_minK, up_append]
      exact .inr ⟨evW t, List.mem_map.2 ⟨t, List.mem_filter.2 ⟨ht, hp⟩, rfl⟩, sat_ev hs⟩
  · unfold settleF
    rw [up_minK, up_append]
    exact .inl h
structure TSays (V s : Nat) (nodes : List Nd) (P : Nat → Bool) (R F R' F' : List Nat) : Prop where
  back : upP R' (holdsP V s nodes) → upP R (holdsP V s nodes)
  forth : upP R (holdsP V s nodes) → upP R' (holdsP V s nodes) ∨ up F' s
  front : up F s → up F' s
  rows : (∀ r ∈ R, P (evW r) = false) → ∀ r ∈ R', P (evW r) = false
  outs : (∀ t ∈ F, P t = true) → ∀ t ∈ F', P t = true
  canR : Good R → Good R'
  canF : Good F → Good F'
  mkF : (∀ t ∈ F, t < 16777216) → ∀ t ∈ F', t < 16777216
theorem TSays.trans {V s : Nat} {nodes : List Nd} {P : Nat → Bool} {R F R1 F1 R2 F2 : List Nat} (h : TSays V s nodes P R F R1 F1) (k : TSays V s nodes P R1 F1 R2 F2) : TSays V s nodes P R F R2 F2 :=
  ⟨fun x => h.back (k.back x), fun x => (h.forth x).elim (fun y => k.forth y) fun y => .inr (k.front y), fun x => k.front (h.front x), fun x => k.rows (h.rows x), fun x => k.outs (h.outs x), fun x => k.canR (h.canR x), fun x => k.canF (h.canF x), fun x => k.mkF (h.mkF x)⟩
theorem says_settle {V s : Nat} {nodes : List Nd} (P : Nat → Bool) (M F : List Nat) {p : List Nat × List Nat} (h : settleK P M F = some p) : TSays V s nodes P M F p.1 p.2 := by
  obtain ⟨rfl, h1, h2⟩ := settleK_some h
  obtain ⟨a, b, c⟩ := settle_says (V := V) (s := s) (nodes := nodes) P M F
  refine ⟨a, b, c, fun _ r hr => (mem_settleR hr).2, fun hF t ht => ?_, fun _ => ⟨can_minK _, h1⟩, fun _ => ⟨can_minK _, h2⟩, fun hF t ht => ?_⟩
  · rcases mem_settleF ht with h | ⟨r, _, h, rfl⟩
    · exact hF t h
    · exact h
  · rcases mem_settleF ht with h | ⟨r, _, _, rfl⟩
    · exact hF t h
    · exact evW_lt r
theorem runT_says {V T : Nat} {f : Fm} (hok : Ok f V T) (hs : synK V T f = true) (P : Nat → Bool) (s : Nat) : ∀ i R F p, i ≤ f.nodes.length → (∀ r ∈ R, Marked V (belowK V T f.nodes) r) → (∀ r ∈ R, RowLt (24 + i) r) → runT V P f.nodes i R F = some p →
    TSays V s f.nodes P R F p.1 p.2 ∧ ∀ r ∈ p.1, RowLt 24 r := by
  intro i
  induction i with
  | zero =>
    intro R F p _ _ hl h
    cases h
    exact ⟨⟨fun h => h, fun h => .inl h, fun h => h, fun h => h, fun h => h, fun h => h, fun h => h, fun h => h⟩, hl⟩
  | succ i ih =>
    intro R F p hi hm hl h
    have hil : i < f.nodes.length := by omega
    have hnd : f.nodes.getD i noNd = f.nodes[i] := by simp [List.getD_eq_getElem?_getD, hil]
    unfold runT at h
    rw [hnd] at h
    split at h
    · split at h
      · cases h1 : settleK P (expK V f.nodes[i] i R) F with
        | none => rw [h1] at h; cases h
        | some q =>
          rw [h1] at h
          have h2 : runT V P f.nodes i q.1 q.2 = some p := h
          have hq := (settleK_some h1).1
          have hmE := marked_expK (i := i) hok.v24 hm (fun hk a ha => ⟨(hok.args i hil a ha).1, below_closed V T f hok i hil hk a ha⟩)
          have hlE := rowLt_expK hok.v24 (hok.args i hil) hl
          have hup := upP_expK V (holdsP V s f.nodes) (valsK V s f.nodes) f.nodes[i] i R fun r hr hb => by
            have hmk := hm r hr i hb
            have hkd := kind_mono hok hs i hil hmk
            refine ⟨says_args hok s _ fun a ha => (hok.args i hil a ha).1, hkd, fun h4 => ?_, holds_node hok s i hil⟩
            have := hok.arity i hil
            unfold chkK at this
            rw [if_neg (by omega), if_pos h4] at this
            split at this
            · omega
            · cases this
          have hset := says_settle (V := V) (s := s) (nodes := f.nodes) P _ F h1
          obtain ⟨h3, h4⟩ := ih q.1 q.2 p (by omega) (fun r hr => hmE r (by rw [hq] at hr; exact (mem_settleR hr).1)) (fun r hr => hlE r (by rw [hq] at hr; exact (mem_settleR hr).1)) h2
          refine ⟨TSays.trans ⟨fun x => hup.1 (hset.back x), fun x => hset.forth (hup.2 x), hset.front, fun _ r hr => ?_, hset.outs, fun _ => ?_, hset.canF, hset.mkF⟩ h3, h4⟩
          · rw [hq] at hr; exact (mem_settleR hr).2
          · rw [hq]; exact ⟨can_minK _, (settleK_some h1).2.1⟩
      · cases h
    · rename_i hany
      exact ih R F p (by omega) hm (rowLt_skip hl hany) h
/-- The answer of the search with a limit. -/
structure TopT (V T : Nat) (f : Fm) (P : Nat → Bool) (R F : List Nat) : Prop where
  goodR : Good R
  goodF : Good F
  mkR : ∀ r ∈ R, r < 16777216
  mkF : ∀ r ∈ F, r < 16777216
  kept : ∀ r ∈ R, P r = false
  outs : ∀ r ∈ F, P r = true
  sound : ∀ s, up R s → (valsK V s f.nodes).getD T false = true
  covers : ∀ s, (valsK V s f.nodes).getD T false = true → up R s ∨ up F s
theorem evW_of_lt {r : Nat} (h : r < 16777216) : evW r = r := Nat.mod_eq_of_lt h
theorem topT_says {V T : Nat} {f : Fm} (hok : Ok f V T) (hs : synK V T f = true) (P : Nat → Bool) {p : List Nat × List Nat} (h : topT V T P f.nodes = some p) : TopT V T f P p.1 p.2 := by
  have hT := hok.tlt
  have hV := hok.v24
  have hlt : ∀ r ∈ [cond V (T : Int)], RowLt (24 + f.nodes.length) r := by
    intro r hr
    simp at hr
    subst hr
    exact rowLt_cond (by omega) hV
  have hmk : ∀ r ∈ [cond V (T : Int)], Marked V (belowK V T f.nodes) r := by
    intro r hr
    simp at hr
    subst hr
    refine marked_cond (by omega) hV ?_
    unfold belowK
    refine belowGo_keep V f.nodes _ _ _ ?_
    rw [List.getD_eq_getElem?_getD, Int.toNat_natCast, List.getElem?_set_self (by simp; omega)]; rfl
  unfold topT at h
  cases h1 : settleK P [cond V (T : Int)] [] with
  | none => rw [h1] at h; cases h
  | some q =>
    rw [h1] at h
    have h2 : runT V P f.nodes f.nodes.length q.1 q.2 = some p := h
    have hq := (settleK_some h1).1
    have hmq : ∀ r ∈ q.1, Marked V (belowK V T f.nodes) r := fun r hr => hmk r (by rw [hq] at hr; exact (mem_settleR hr).1)
    have hlq : ∀ r ∈ q.1, RowLt (24 + f.nodes.length) r := fun r hr => hlt r (by rw [hq] at hr; exact (mem_settleR hr).1)
    have hT0 : ∀ s, TSays V s f.nodes P [cond V (T : Int)] [] p.1 p.2 := fun s => (says_settle P _ _ h1).trans (runT_says hok hs P s _ _ _ p (Nat.le_refl _) hmq hlq h2).1
    have h24 := (runT_says hok hs P 0 _ _ _ p (Nat.le_refl _) hmq hlq h2).2
    have hR24 : ∀ r ∈ p.1, r < 16777216 := fun r hr => rowLt_num (h24 r hr)
    have hup : ∀ s, up p.1 s ↔ upP p.1 (holdsP V s f.nodes) := by
      intro s
      unfold up upP
      have : ∀ r ∈ p.1, (subN r s = true ↔ sat (holdsP V s f.nodes) r) := by
        intro r hr
        rw [subN_iff]
        unfold sat holdsP
        constructor
        · intro h i hi
          rw [if_pos (h24 r hr i hi)]; exact h i hi
        · intro h i hi
          have := h i hi
          rw [if_pos (h24 r hr i hi)] at this; exact this
      exact ⟨fun ⟨r, hr, h⟩ => ⟨r, hr, (this r hr).1 h⟩, fun ⟨r, hr, h⟩ => ⟨r, hr, (this r hr).2 h⟩⟩
    have htop : ∀ s, upP [cond V (T : Int)] (holdsP V s f.nodes) ↔ (valsK V s f.nodes).getD T false = true := by
      intro s
      rw [upP_one]
      have := says_args hok s [(T : Int)] (by simp) (T : Int) (by simp)
      rw [this]; simp
    refine ⟨(runT_says hok hs P 0 _ _ _ p (Nat.le_refl _) hmq hlq h2).1.canR (by rw [hq]; exact ⟨can_minK _, (settleK_some h1).2.1⟩), (hT0 0).canF good_nil, hR24, (hT0 0).mkF (by simp), fun r hr => ?_, (hT0 0).outs (by simp), fun s hu => ?_, fun s hv => ?_⟩
    · have := (runT_says hok hs P 0 _ _ _ p (Nat.le_refl _) hmq hlq h2).1.rows (fun r hr => by rw [hq] at hr; exact (mem_settleR hr).2) r hr
      rw [evW_of_lt (hR24 r hr)] at this
      exact this
    · exact (htop s).1 ((hT0 s).back ((hup s).1 hu))
    · rw [hup]; exact (hT0 s).forth ((htop s).2 hv)
/-- With a limit that grows with the set: the kept sets, said without the search. -/
theorem TopT.mem {V T : Nat} {f : Fm} {P : Nat → Bool} {R F : List Nat} (h : TopT V T f P R F) (hP : ∀ a b, subN a b = true → P a = true → P b = true) (r : Nat) :
    r ∈ R ↔ P r = false ∧ (valsK V r f.nodes).getD T false = true ∧ ∀ t, subN t r = true → (valsK V t f.nodes).getD T false = true → t = r := by
  have huF : ∀ s, P s = false → ¬ up F s := by
    rintro s hs ⟨t, ht, hsub⟩
    have := hP t s hsub (h.outs t ht)
    rw [hs] at this; cases this
  have hcan : ∀ x ∈ R, ∀ y ∈ R, subN y x = true → y = x := by
    intro x hx y hy hyx
    have hc := h.goodR.1
    rw [← hc] at hx
    exact ((mem_minK_iff R x).1 hx).2 y hy hyx
  constructor
  · intro hr
    refine ⟨h.kept r hr, h.sound r ⟨r, hr, subN_refl r⟩, fun t ht hv => ?_⟩
    have hpt : P t = false := by
      cases hp : P t with
      | false => rfl
      | true => have := hP t r ht hp; rw [h.kept r hr] at this; cases this
    obtain ⟨x, hx, hxt⟩ := (h.covers t hv).resolve_right (huF t hpt)
    have := hcan r hr x hx (subN_tr hxt ht)
    subst this
    exact subN_anti ht hxt
  · rintro ⟨hp, hv, hmin⟩
    obtain ⟨x, hx, hxr⟩ := (h.covers r hv).resolve_right (huF r hp)
    have := hmin x hxr (h.sound x ⟨x, hx, subN_refl x⟩)
    subst this
    exact hx
/-- The kept sets are the minimal cut sets within the limit. -/
theorem TopT.kept_cuts {V T : Nat} {f : Fm} {P : Nat → Bool} {R F : List Nat} (hok : Ok f V T) (hs : synK V T f = true) (h : TopT V T f P R F) (hP : ∀ a b, subN a b = true → P a = true → P b = true) {p : List Nat × List Nat} (hp : topK V T f.nodes = some p) :
    R = p.1.filter fun r => !P r := by
  obtain ⟨h1, _, h3⟩ := topK_says hok hs hp
  have hc : p.1.Pairwise ltK := by rw [← h1.1]; exact pair_minK _
  have hR : R.Pairwise ltK := by rw [← h.goodR.1]; exact pair_minK _
  refine pair_unique ltK ltK_irr ltK_tr _ _ hR (hc.filter _) fun r => ?_
  rw [h.mem hP r, List.mem_filter]
  have hcan : ∀ x ∈ p.1, ∀ y ∈ p.1, subN y x = true → y = x := by
    intro x hx y hy hyx
    have hc := h1.1
    rw [← hc] at hx
    exact ((mem_minK_iff p.1 x).1 hx).2 y hy hyx
  constructor
  · rintro ⟨a, b, c⟩
    refine ⟨?_, by simp [a]⟩
    obtain ⟨x, hx, hxr⟩ := (h3 r).2 b
    have := c x hxr ((h3 x).1 ⟨x, hx, subN_refl x⟩)
    subst this
    exact hx
  · rintro ⟨a, b⟩
    refine ⟨by simpa using b, (h3 r).1 ⟨r, a, subN_refl r⟩, fun t ht hv => ?_⟩
    obtain ⟨x, hx, hxt⟩ := (h3 t).2 hv
    have := hcan r a x hx (subN_tr hxt ht)
    subst this
    exact subN_anti ht hxt
/-- Two limits, one above the other: what the lower one keeps. -/
theorem TopT.grows {V T : Nat} {f : Fm} {P Q : Nat → Bool} {R F R2 F2 : List Nat} (h : TopT V T f P R F) (k : TopT V T f Q R2 F2) (hP : ∀ a b, subN a b = true → P a = true → P b = true) (hQ : ∀ a b, subN a b = true → Q a = true → Q b = true) (hPQ : ∀ a, Q a = true → P a = true) :
    R = R2.filter fun r => !P r := by
  have hR : R.Pairwise ltK := by rw [← h.goodR.1]; exact pair_minK _
  have hR2 : R2.Pairwise ltK := by rw [← k.goodR.1]; exact pair_minK _
  refine pair_unique ltK ltK_irr ltK_tr _ _ hR (hR2.filter _) fun r => ?_
  rw [h.mem hP r, List.mem_filter, k.mem hQ r]
  constructor
  · rintro ⟨a, b, c⟩
    refine ⟨⟨?_, b, c⟩, by simp [a]⟩
    cases hq : Q r with
    | false => rfl
    | true => have := hPQ r hq; rw [a] at this; cases this
  · rintro ⟨⟨_, b, c⟩, a⟩
    exact ⟨by simpa using a, b, c⟩

/-- Where the search with a limit stands: rows L in some order, the frontier, what is still to come. -/
structure TStand (V T : Nat) (f : Fm) (P : Nat → Bool) (L F : List Nat) (m : Nat) : Prop where
  le : m ≤ f.nodes.length
  lt : ∀ r ∈ L, RowLt (24 + m) r
  mkd : ∀ r ∈ L, Marked V (belowK V T f.nodes) r
  len : L.length ≤ 1024
  lenF : F.length ≤ 1024
  mkF : ∀ t ∈ F, t < 16777216
  run : ∃ R : List Nat, L.Perm R ∧ topT V T P f.nodes = runT V P f.nodes m R F
theorem settleR_perm {P : Nat → Bool} {L R : List Nat} (h : L.Perm R) : settleR P L = settleR P R := minK_perm (h.filter _)
theorem settleF_perm {P : Nat → Bool} {L R F : List Nat} (h : L.Perm R) : settleF P L F = settleF P R F := minK_perm (((h.filter _).map _).append_left _)
theorem TStand.start {V T : Nat} {f : Fm} (hok : Ok f V T) {P : Nat → Bool} {M F : List Nat} (hM : M.Perm (settleR P [cond V T])) (hF : F = settleF P [cond V T] []) (hl : M.length ≤ 1024) (hlF : F.length ≤ 1024) : TStand V T f P M F f.nodes.length := by
  have hT := hok.tlt
  have hmem : ∀ r ∈ M, r = cond V T := fun r hr => by simpa using (mem_settleR (hM.mem_iff.1 hr)).1
  refine ⟨Nat.le_refl _, fun r hr => ?_, fun r hr => ?_, hl, hlF, fun t ht => ?_, ⟨settleR P [cond V T], hM, ?_⟩⟩
  · rw [hmem r hr]; exact rowLt_cond (by omega) hok.v24
  · rw [hmem r hr]
    refine marked_cond (by omega) hok.v24 ?_
    unfold belowK
    refine belowGo_keep V f.nodes _ _ _ ?_
    rw [List.getD_eq_getElem?_getD, Int.toNat_natCast, List.getElem?_set_self (by simp; omega)]; rfl
  · rw [hF] at ht
    rcases mem_settleF ht with h | ⟨r, _, _, rfl⟩
    · cases h
    · exact evW_lt r
  · unfold topT settleK
    rw [if_pos ⟨by rw [← hM.length_eq]; exact hl, by rw [← hF]; exact hlF⟩, hF]; rfl
theorem TStand.bad {V T : Nat} {P : Nat → Bool} {nodes : List Nd} (h : 1024 < (settleR P [cond V T]).length ∨ 1024 < (settleF P [cond V T] []).length) : topT V T P nodes = none := by
  unfold topT settleK
  rw [if_neg (by omega)]; rfl
theorem runT_skip (V : Nat) (P : Nat → Bool) (nodes : List Nd) (i : Nat) (R F : List Nat) : ∀ m, i ≤ m → (∀ j, i ≤ j → j < m → R.any (fun r => r.testBit (24 + j)) = false) → runT V P nodes m R F = runT V P nodes i R F := by
  intro m
  induction m with
  | zero => intro h _; have : i = 0 := by omega
            subst this; rfl
  | succ m ih =>
    intro h hj
    by_cases e : i = m + 1
    · subst e; rfl
    · rw [← ih (by omega) fun j h1 h2 => hj j h1 (by omega)]
      conv => lhs; unfold runT
      rw [if_neg (by rw [hj m (by omega) (by omega)]; simp)]
theorem TStand.done {V T : Nat} {f : Fm} {P : Nat → Bool} {L F : List Nat} {m : Nat} (h : TStand V T f P L F m) (hn : ∀ c ∈ L, ∀ j, c.testBit (24 + j) = true → False) : ∃ R, topT V T P f.nodes = some (R, F) ∧ L.Perm R := by
  obtain ⟨R, hp, hr⟩ := h.run
  refine ⟨R, ?_, hp⟩
  rw [hr, runT_skip V P f.nodes 0 R F m (Nat.zero_le _) fun j _ _ => ?_]
  · rfl
  · rw [List.any_eq_false]
    intro r hr hb
    exact hn r (hp.mem_iff.2 hr) j hb
theorem TStand.at {V T : Nat} {f : Fm} {P : Nat → Bool} {L F : List Nat} {m i : Nat} (h : TStand V T f P L F m) (hi : ∃ c ∈ L, c.testBit (24 + i) = true) (hmax : ∀ c ∈ L, ∀ j, c.testBit (24 + j) = true → j ≤ i) :
    i < m ∧ (belowK V T f.nodes).getD (V + i) false = true ∧ ∃ R : List Nat, L.Perm R ∧ R.any (fun r => r.testBit (24 + i)) = true ∧ topT V T P f.nodes = runT V P f.nodes (i + 1) R F := by
  obtain ⟨c, hc, hb⟩ := hi
  have him : i < m := by have := h.lt c hc _ hb; omega
  obtain ⟨R, hp, hr⟩ := h.run
  refine ⟨him, h.mkd c hc i hb, R, hp, List.any_eq_true.2 ⟨c, hp.mem_iff.1 hc, hb⟩, ?_⟩
  rw [hr, runT_skip V P f.nodes (i + 1) R F m (by omega) fun j h1 _ => ?_]
  rw [List.any_eq_false]
  intro r hr hb
  have := hmax r (hp.mem_iff.2 hr) j hb
  omega
theorem TStand.full {V T : Nat} {f : Fm} {P : Nat → Bool} {L F : List Nat} {m i : Nat} (h : TStand V T f P L F m) (hi : ∃ c ∈ L, c.testBit (24 + i) = true) (hmax : ∀ c ∈ L, ∀ j, c.testBit (24 + j) = true → j ≤ i)
    (hl : 4096 < (expK V (f.nodes.getD i noNd) i L).length) : topT V T P f.nodes = none := by
  obtain ⟨_, _, R, hp, ha, hr⟩ := h.at hi hmax
  rw [hr]
  conv => lhs; unfold runT
  rw [if_pos ha, if_neg (by rw [← (expK_perm (V := V) (i := i) (x := f.nodes.getD i noNd) hp).length_eq]; omega)]
theorem TStand.many {V T : Nat} {f : Fm} {P : Nat → Bool} {L F : List Nat} {m i : Nat} (h : TStand V T f P L F m) (hi : ∃ c ∈ L, c.testBit (24 + i) = true) (hmax : ∀ c ∈ L, ∀ j, c.testBit (24 + j) = true → j ≤ i)
    (hl : 1024 < (settleR P (expK V (f.nodes.getD i noNd) i L)).length ∨ 1024 < (settleF P (expK V (f.nodes.getD i noNd) i L) F).length) : topT V T P f.nodes = none := by
  obtain ⟨_, _, R, hp, ha, hr⟩ := h.at hi hmax
  have he := expK_perm (V := V) (i := i) (x := f.nodes.getD i noNd) hp
  rw [hr]
  conv => lhs; unfold runT
  rw [if_pos ha]
  split
  · unfold settleK
    rw [if_neg (by rw [← settleR_perm he, ← settleF_perm he]; omega)]; rfl
  · rfl
theorem TStand.next {V T : Nat} {f : Fm} (hok : Ok f V T) {P : Nat → Bool} {L M F F' : List Nat} {m i : Nat} (h : TStand V T f P L F m) (hi : ∃ c ∈ L, c.testBit (24 + i) = true) (hmax : ∀ c ∈ L, ∀ j, c.testBit (24 + j) = true → j ≤ i)
    (hl4 : (expK V (f.nodes.getD i noNd) i L).length ≤ 4096) (hM : M.Perm (settleR P (expK V (f.nodes.getD i noNd) i L))) (hF : F' = settleF P (expK V (f.nodes.getD i noNd) i L) F) (hl : M.length ≤ 1024) (hlF : F'.length ≤ 1024) : TStand V T f P M F' i := by
  obtain ⟨him, hmk, R, hp, ha, hr⟩ := h.at hi hmax
  have hle := h.le
  have hil : i < f.nodes.length := by omega
  have hnd : f.nodes.getD i noNd = f.nodes[i] := by simp [List.getD_eq_getElem?_getD, hil]
  have he := expK_perm (V := V) (i := i) (x := f.nodes.getD i noNd) hp
  have hmem : ∀ r ∈ M, r ∈ expK V (f.nodes.getD i noNd) i L := fun r hr => (mem_settleR (hM.mem_iff.1 hr)).1
  refine ⟨by omega, fun r hr => ?_, fun r hr => ?_, hl, hlF, fun t ht => ?_, ⟨settleR P (expK V (f.nodes.getD i noNd) i R), by rw [← settleR_perm he]; exact hM, ?_⟩⟩
  · refine rowLt_expK hok.v24 (by rw [hnd]; exact hok.args i hil) (fun c hc j hj => ?_) r (hmem r hr)
    by_cases h24 : j < 24
    · omega
    · have := hmax c hc (j - 24) (by rw [show 24 + (j - 24) = j by omega]; exact hj)
      omega
  · exact marked_expK hok.v24 h.mkd (fun hk a ha => by rw [hnd] at ha; exact ⟨(hok.args i hil a ha).1, below_closed V T f hok i hil hk a ha⟩) r (hmem r hr)
  · rw [hF] at ht
    rcases mem_settleF ht with h2 | ⟨r, _, _, rfl⟩
    · exact h.mkF t h2
    · exact evW_lt r
  · rw [hr]
    conv => lhs; unfold runT
    rw [if_pos ha, if_pos (by rw [← he.length_eq]; exact hl4)]
    unfold settleK
    rw [← settleR_perm he, ← settleF_perm he, if_pos ⟨by rw [← hM.length_eq]; exact hl, by rw [← hF]; exact hlF⟩, hF]; rfl
end Go.Proofs.YtngbjdaaogbjmaaGreat
