import Derived.Test.YtapniojbnochiaaK5
import Derived.Test.YtapniojbnochiaaK6
/-
  Plain: events of cut sets are below Top. Walks: formula.Support, family.Support.
-/
namespace Go.Proofs.Ytapniojbnochiaa
open Go.RowKit

/-- The events of a row are marked. -/
def EvMk (mark : List Bool) (r : Nat) : Prop := ∀ j, j < 24 → r.testBit j = true → mark.getD j false = true
theorem evMk_or {mark : List Bool} {x y : Nat} (h1 : EvMk mark x) (h2 : EvMk mark y) : EvMk mark (x ||| y) := fun j hj hb => by
  simp at hb; exact hb.elim (h1 j hj) (h2 j hj)
theorem evMk_sub {mark : List Bool} {x m : Nat} (h : EvMk mark x) : EvMk mark (sdiff x m) := fun j hj hb => by
  rw [sdiff_bit] at hb; simp at hb; exact h j hj hb.1
theorem evMk_cond {V : Nat} {mark : List Bool} {a : Int} (_h0 : 0 ≤ a) (h : mark.getD a.toNat false = true) : EvMk mark (cond V a) := by
  intro j hj hb
  unfold cond at hb
  split at hb
  · simp [Nat.testBit_two_pow] at hb
    rw [← hb]; exact h
  · simp [Nat.testBit_two_pow] at hb; omega
theorem evMk_fold {V : Nat} {mark : List Bool} (args : List Int) (h : ∀ a ∈ args, EvMk mark (cond V a)) : ∀ r, EvMk mark r → EvMk mark (args.foldl (withC V) r) := by
  induction args with
  | nil => intro r hr; exact hr
  | cons a l ih => intro r hr; exact ih (fun x hx => h x (List.mem_cons_of_mem _ hx)) _ (evMk_or hr (h a (List.mem_cons_self ..)))
theorem evMk_choose {V : Nat} {mark : List Bool} (args : List Int) : (∀ a ∈ args, EvMk mark (cond V a)) → ∀ k r, EvMk mark r → ∀ t ∈ chooseK V args k r, EvMk mark t := by
  induction args with
  | nil =>
    intro _ k r hr t ht
    unfold chooseK at ht
    split at ht
    · simp at ht; subst ht; exact hr
    · cases ht
  | cons a l ih =>
    intro h k r hr t ht
    unfold chooseK at ht
    split at ht
    · simp at ht; subst ht; exact hr
    · have h' : ∀ x ∈ l, EvMk mark (cond V x) := fun x hx => h x (List.mem_cons_of_mem _ hx)
      rcases List.mem_append.1 ht with ht | ht
      · exact ih h' _ _ (evMk_or hr (h a (List.mem_cons_self ..))) t ht
      · exact ih h' _ _ hr t ht
theorem evMk_expK {V i : Nat} {mark : List Bool} {x : Nd} {R : List Nat} (hR : ∀ r ∈ R, EvMk mark r) (hM : ∀ r ∈ R, Marked V mark r)
    (ha : mark.getD (V + i) false = true → ∀ a ∈ x.args, 0 ≤ a ∧ mark.getD a.toNat false = true) : ∀ t ∈ expK V x i R, EvMk mark t := by
  intro t ht
  obtain ⟨r, hr, ht⟩ := List.mem_flatMap.1 ht
  unfold expR at ht
  split at ht
  · rename_i hb
    have hm := ha (hM r hr i hb)
    have h' : ∀ a ∈ x.args, EvMk mark (cond V a) := fun a h => evMk_cond (hm a h).1 (hm a h).2
    have hd : EvMk mark (sdiff r (2 ^ (24 + i))) := evMk_sub (hR r hr)
    unfold expandK at ht
    split at ht
    · split at ht
      · simp at ht; subst ht; exact hd
      · cases ht
    · split at ht
      · simp at ht; subst ht; exact evMk_fold _ h' _ hd
      · split at ht
        · obtain ⟨a, h1, rfl⟩ := List.mem_map.1 ht
          exact evMk_or hd (h' a h1)
        · exact evMk_choose _ h' _ _ hd t ht
  · simp at ht; subst ht; exact hR t hr
theorem evMk_runK {V T : Nat} {f : Fm} (hok : Ok f V T) : ∀ i R p, i ≤ f.nodes.length → (∀ r ∈ R, Marked V (belowK V T f.nodes) r) → (∀ r ∈ R, EvMk (belowK V T f.nodes) r) → runK V f.nodes i R = some p → ∀ r ∈ p.1, EvMk (belowK V T f.nodes) r := by
  intro i
  induction i with
  | zero => intro R p _ _ hR h; cases h; exact hR
  | succ i ih =>
    intro R p hi hM hR h
    have hil : i < f.nodes.length := by omega
    have hnd : f.nodes.getD i noNd = f.nodes[i] := by simp [List.getD_eq_getElem?_getD, hil]
    unfold runK at h
    rw [hnd] at h
    split at h
    · split at h
      · split at h
        · cases h1 : runK V f.nodes i (minK (expK V f.nodes[i] i R)) with
          | none => rw [h1] at h; cases h
          | some q =>
            rw [h1] at h
            cases h
            have hcl := fun hk a (ha : a ∈ f.nodes[i].args) => (⟨(hok.args i hil a ha).1, below_closed V T f hok i hil hk a ha⟩ : 0 ≤ a ∧ (belowK V T f.nodes).getD a.toNat false = true)
            exact ih _ q (by omega) (fun r hr => marked_expK hok.v24 hM hcl r (mem_minK hr)) (fun r hr => evMk_expK hR hM hcl r (mem_minK hr)) h1
        · cases h
      · cases h
    · exact ih R p (by omega) hM hR h
theorem topK_marked {V T : Nat} {f : Fm} (hok : Ok f V T) {p : List Nat × List Nat} (h : topK V T f.nodes = some p) : ∀ r ∈ p.1, EvMk (belowK V T f.nodes) r := by
  have hT := hok.tlt
  have hget : (belowK V T f.nodes).getD (T : Int).toNat false = true := by
    unfold belowK
    refine belowGo_keep V f.nodes _ _ _ ?_
    rw [List.getD_eq_getElem?_getD, Int.toNat_natCast, List.getElem?_set_self (by simp; omega)]; rfl
  refine evMk_runK hok _ _ p (Nat.le_refl _) (fun r hr => ?_) (fun r hr => ?_) h
  · simp at hr; subst hr; exact marked_cond (by omega) hok.v24 hget
  · simp at hr; subst hr; exact evMk_cond (by omega) hget
/-- The set of the marked ones of the first k. -/
def markTo (mark : List Bool) : Nat → Nat
  | 0 => 0
  | k + 1 => if mark.getD k false = true then markTo mark k ||| 2 ^ k else markTo mark k
theorem markTo_bit (mark : List Bool) (k j : Nat) : (markTo mark k).testBit j = (decide (j < k) && mark.getD j false) := by
  induction k with
  | zero => simp [markTo]
  | succ k ih =>
    unfold markTo
    by_cases hm : mark.getD k false = true
    · rw [if_pos hm, bit_or_pow, ih]
      by_cases e : k = j
      · subst e
        rw [hm]; simp
      · have e2 : decide (j < k + 1) = decide (j < k) := by
          by_cases h : j < k
          · simp [h]; omega
          · simp [h]; omega
        rw [e2]; simp [e]
    · rw [if_neg hm, ih]
      by_cases e : k = j
      · subst e
        simp only [Bool.not_eq_true] at hm
        rw [hm]; simp
      · have e2 : decide (j < k + 1) = decide (j < k) := by
          by_cases h : j < k
          · simp [h]; omega
          · simp [h]; omega
        rw [e2]
theorem markTo_lt (mark : List Bool) (k : Nat) (hk : k ≤ 24) : markTo mark k < 16777216 := by
  have : RowLt 24 (markTo mark k) := fun j hj => by
    rw [markTo_bit] at hj
    simp at hj
    omega
  exact rowLt_num this
def orTo (l : List Nat) : Nat := l.foldl (· ||| ·) 0
theorem orTo_snoc (l : List Nat) (x : Nat) : orTo (l ++ [x]) = orTo l ||| x := by unfold orTo; rw [List.foldl_append]; rfl
theorem orTo_lt {l : List Nat} (h : ∀ x ∈ l, x < 16777216) : orTo l < 16777216 := by
  have : ∀ (l : List Nat) (a : Nat), a < 16777216 → (∀ x ∈ l, x < 16777216) → l.foldl (· ||| ·) a < 16777216 := by
    intro l
    induction l with
    | nil => intro a ha _; exact ha
    | cons x l ih =>
      intro a ha hl
      exact ih _ (Nat.or_lt_two_pow (n := 24) ha (hl x (List.mem_cons_self ..))) fun y hy => hl y (List.mem_cons_of_mem _ hy)
  exact this l 0 (by decide) h
theorem orTo_bit {l : List Nat} {j : Nat} (h : (orTo l).testBit j = true) : ∃ x ∈ l, x.testBit j = true := by
  have : ∀ (l : List Nat) (a : Nat), (l.foldl (· ||| ·) a).testBit j = true → a.testBit j = true ∨ ∃ x ∈ l, x.testBit j = true := by
    intro l
    induction l with
    | nil => intro a ha; exact .inl ha
    | cons x l ih =>
      intro a ha
      rcases ih _ ha with h1 | ⟨y, hy, h1⟩
      · simp at h1
        rcases h1 with h1 | h1
        · exact .inl h1
        · exact .inr ⟨x, List.mem_cons_self .., h1⟩
      · exact .inr ⟨y, List.mem_cons_of_mem _ hy, h1⟩
  rcases this l 0 h with h1 | h1
  · simp at h1
  · exact h1
theorem orTo_sub {V T : Nat} {f : Fm} {p : List Nat} (hok : Ok f V T) (hlt : ∀ r ∈ p, r < 2 ^ V) (hm : ∀ r ∈ p, EvMk (belowK V T f.nodes) r) : subN (orTo p) (markTo (belowK V T f.nodes) V) = true := subN_iff.2 fun j hj => by
  obtain ⟨x, hx, hb⟩ := orTo_bit hj
  have hjV : j < V := rowLt_of_num (hlt x hx) j hb
  rw [markTo_bit]
  rw [hm x hx j (by have := hok.v24; omega) hb]
  simp [hjV]
set_option maxRecDepth 100000 in
set_option maxHeartbeats 4000000 in
theorem fsupport_any (v : Value) (f : Fm) (V T : Nat) (w : World) (hv : NodesAt w v f.nodes) (hok : Ok f V T) (hck : chkF f = 0) :
    Calls Try.prog 42 #[.agg #[.int .i64 V, v, .int .i64 T]] w fun e w' => e = .returned (.tuple #[.int .i64 (markTo (belowK V T f.nodes) V), .nilIface]) ∧ Kept w w' := by
  have hT := hok.tlt
  have hn := hok.n128
  have hV := hok.v24
  have hfm : fmV v f = .agg #[.int .i64 V, v, .int .i64 T] := by unfold fmV; rw [hok.vars, hok.top]
  have HC : Hid (∀ W, Kept w W → Calls Try.prog 27 #[.agg #[.int .i64 V, v, .int .i64 T]] W fun e w' => e = .returned .nilIface ∧ Kept W w') := Lib.hid fun W hk => by
    have := check_any v f W (hv.kept hk) (by rw [hok.top]; omega)
    rw [hck, hfm] at this
    exact this
  have HBL := Lib.hid (fun W (hk : Kept w W) => below_any v f V T W (hv.kept hk) hok)
  have hlen : (belowK V T f.nodes).length = V + f.nodes.length := len_belowK ..
  obtain ⟨mk, hmk⟩ : ∃ m, m = belowK V T f.nodes := ⟨_, rfl⟩
  obtain ⟨n, hnn⟩ : ∃ n, n = f.nodes.length := ⟨_, rfl⟩
  rw [← hmk] at HBL hlen ⊢
  rw [← hnn] at HBL hlen hT hn
  obtain ⟨a, c, rfl, hrest⟩ := hv
  rw [← hnn] at HC HBL ⊢
  have HML := Lib.hid hlen
  have hVn : (V : Int) ≤ (V : Int) + (n : Int) := by omega
  have hVn2 : (V : Int) ≤ ((V + n : Nat) : Int) := by omega
  clear hrest hok hck hfm hmk hnn hlen
  go_enter Try.func42, Try.ntmps42
  go_wp2_with (go_at_call 27; refine (HC.out _ ((Kept.refl _).alloc _)).mono ?_; rintro e w1 ⟨rfl, hk1⟩; obtain ⟨c0, c1, c2⟩ := fm_cells hk1; have K1 := Lib.hid (((Kept.refl _).alloc _).trans hk1); clear hk1)
  go_cut [17, 18, 19] (fun p17 p18 p19 wx => ∃ g, p17 = .slice (some ⟨g, 0, none⟩) V (V + n) ∧ p18 = .int .i64 V ∧ p19 = .int .i64 0 ∧ Hid (RowAt wx g 4 (mk.map .bool)) ∧ Hid (Kept w wx))
  case first =>
    have x0 := ((Kept.refl w1).drew).cell c0
    have x1 := ((Kept.refl w1).drew).cell c1
    have x2 := ((Kept.refl w1).drew).cell c2
    go_region_held3 (fun w' => w'.cell? ⟨w.heap.size, 0, none⟩ = some (.int .i64 V) ∧ w'.cell? ⟨w.heap.size, 1, none⟩ = some (.slice a n c) ∧ w'.cell? ⟨w.heap.size, 2, none⟩ = some (.int .i64 T))
      (first | go_keep | exact ⟨hk3.cell x0, hk3.cell x1, hk3.cell x2⟩)
      (first | (go_at_call 72; refine (HBL.out _ (K1.out.trans (Kept.refl _).drew)).mono ?_; rintro e w3 ⟨g, rfl, hg, hr3, hk3⟩))
    all_goals (go_wp2_with fail; go_meet; exact ⟨g, rfl, rfl, rfl, Lib.hid hr3, Lib.hid ((K1.out.trans (Kept.refl _).drew).trans hk3)⟩)
  case rest =>
    obtain ⟨g, rfl, rfl, rfl, HR, HKX⟩ := hcut
    clear c0 c1 c2
    go_wp2_with fail
    go_loopg [5, 19] V (fun kx s5 s19 wr => ∃ (k z : Nat), s5 = .int .i64 z ∧ s19 = .int .i64 k ∧ k ≤ V ∧ V - k ≤ kx ∧ z < 16777216 ∧ Hid (z = markTo mk k) ∧ Hid (Kept wc wr))
    case atStart => exact ⟨0, 0, rfl, rfl, Nat.zero_le _, by omega, by omega, Lib.hid rfl, Lib.hid (Kept.refl _)⟩
    case round =>
      obtain ⟨k, z, rfl, rfl, hk, hkx, hz9, HZ, HK⟩ := hrel
      by_cases hlt : k < V
      · have hkl : k < mk.length := by have := HML.out; omega
        have hcell := (HR.out.kept HK.out).cell (i := k) (by simpa using hkl)
        rw [getD_map_bool mk k hkl] at hcell
        have hkV : (k : Int) < (V : Int) := by omega
        have hst : markTo mk (k + 1) = if mk.getD k false = true then markTo mk k ||| 2 ^ k else markTo mk k := rfl
        have hlt2 := markTo_lt mk (k + 1) (by omega)
        cases hb : mk.getD k false with
        | false =>
          rw [hb] at hcell hst
          rw [if_neg (by decide), ← HZ.out] at hst
          have HST := Lib.hid hst
          clear hb hst hlt2
          go_wp2
          go_roundg (V - (k + 1))
          case measure => omega
          case rel => exact ⟨k + 1, z, rfl, by go_num, by omega, Nat.le_refl _, hz9, Lib.hid HST.out.symm, HK⟩
        | true =>
          rw [hb] at hcell hst
          rw [if_pos rfl, ← HZ.out] at hst
          obtain ⟨y, hy⟩ : ∃ y, y = 2 ^ k := ⟨_, rfl⟩
          have hy24 : y < 16777216 := by rw [hy]; exact pow_lt24 (by omega)
          have eor := or_i64 z y (by omega) (by omega)
          have ew1 : IntKind.i64.wrap ((2 : Int) ^ k) = (y : Int) := by
            rw [show (2 : Int) ^ k = (y : Int) by rw [hy]; simp, IntKind.wrap_i64]; omega
          have ew2 : wrap64 ((2 : Int) ^ k) = (y : Int) := by rw [hy]; exact shlW k (by omega)
          rw [← hy] at hst
          obtain ⟨x, hx⟩ : ∃ x, x = z ||| y := ⟨_, rfl⟩
          rw [← hx] at eor hst
          rw [hst] at hlt2
          have HST := Lib.hid hst
          clear hb hst hy hx
          go_wp2
          go_roundg (V - (k + 1))
          case measure => omega
          case rel => exact ⟨k + 1, x, by go_num, by go_num, by omega, Nat.le_refl _, hlt2, Lib.hid HST.out.symm, HK⟩
      · have hkV : ¬ (k : Int) < (V : Int) := by omega
        have HF : Hid (z = markTo mk V) := Lib.hid (by rw [HZ.out, show k = V by omega])
        go_wp2
        go_ret2
        exact ⟨by rw [← HF.out]; try rfl, HKX.out.trans HK.out⟩
set_option maxRecDepth 100000 in
set_option maxHeartbeats 4000000 in
theorem famsupport_any (va : Value) (ns : List Nat) (w : World) (hv : SetsAt w va ns) (hl : ns.length ≤ 1024) :
    Calls Try.prog 43 #[va] w fun e w' => e = .returned (.tuple #[.int .i64 (orTo ns), .nilIface]) ∧ Kept w w' := by
  have HL : Hid (Calls Try.prog 64 #[.slice (some ⟨w.heap.size, 0, none⟩) 1 1] (w.alloc (.cells #[va] 27)) fun e w' => e = .returned .nilIface ∧ Kept w w') := Lib.hid (by
    have := lists1 ns va w hv
    rw [if_pos hl, errV_zero] at this
    exact this)
  have HV := Lib.hid hv
  have HLT : Hid (∀ x ∈ ns, x < 16777216) := Lib.hid fun x hx => by have := hv.2 x hx; unfold Mk at this; omega
  obtain ⟨a, c, h1, _⟩ := hv.1
  have hol : (ofN ns).length = ns.length := by simp [ofN]
  rw [hol] at h1
  subst h1
  obtain ⟨n, hn⟩ : ∃ n, n = ns.length := ⟨_, rfl⟩
  rw [← hn] at HV HL hl ⊢
  have HN := Lib.hid hn
  clear hv hol hn
  go_enter Try.func43, Try.ntmps43
  go_wp2_with (go_at_call 64; refine HL.out.mono ?_; rintro e w1 ⟨rfl, hk1⟩)
  have HK1 := Lib.hid hk1
  clear hk1
  go_loopg [5, 16] n (fun kx s5 s16 wr => ∃ (k z : Nat), s5 = .int .i64 z ∧ s16 = .int .i64 k ∧ k ≤ n ∧ n - k ≤ kx ∧ z < 16777216 ∧ Hid (z = orTo (ns.take k)) ∧ Hid (Kept w wr))
  case atStart => exact ⟨0, 0, rfl, rfl, Nat.zero_le _, by omega, by omega, Lib.hid rfl, HK1⟩
  case round =>
    obtain ⟨k, z, rfl, rfl, hk, hkx, hz9, HZ, HK⟩ := hrel
    by_cases hlt : k < n
    · have hkl : k < ns.length := by have := HN.out; omega
      obtain ⟨b, o, rfl, hcell⟩ : ∃ b o, a = some ⟨b, o, none⟩ ∧ wr.cell? ⟨b, o + k, none⟩ = some (.int .i64 ((ns[k] : Nat) : Int)) := by
        obtain ⟨a', c', h1, h2, h3, h4⟩ := (HV.out.kept HK.out).1
        injection h1 with h1 h5 h6
        subst h1
        obtain ⟨b, o, h7, h8⟩ := h4 k (by simpa [ofN] using hkl)
        exact ⟨b, o, h7, by simpa [ofN] using h8⟩
      have hx24 := HLT.out ns[k] (List.getElem_mem _)
      have hst : orTo (ns.take (k + 1)) = z ||| ns[k] := by rw [List.take_succ_eq_append_getElem hkl, orTo_snoc, HZ.out]
      have hlt2 : orTo (ns.take (k + 1)) < 16777216 := orTo_lt fun x hx => HLT.out x (List.mem_of_mem_take hx)
      obtain ⟨y, hy⟩ : ∃ y, y = ns[k] := ⟨_, rfl⟩
      rw [← hy] at hcell hst hx24
      have eor := or_i64 z y (by omega) (by omega)
      obtain ⟨x, hx⟩ : ∃ x, x = z ||| y := ⟨_, rfl⟩
      rw [← hx] at eor hst
      rw [hst] at hlt2
      have HST := Lib.hid hst
      have hkn : (k : Int) < (n : Int) := by omega
      clear hst hy hx
      go_wp2
      go_roundg (n - (k + 1))
      case measure => omega
      case rel => exact ⟨k + 1, x, by go_num, by go_num, by omega, Nat.le_refl _, hlt2, Lib.hid HST.out.symm, HK⟩
    · have hkn : ¬ (k : Int) < (n : Int) := by omega
      have HF : Hid (z = orTo ns) := Lib.hid (by have h := HZ.out; rw [show k = n by omega, HN.out, List.take_length] at h; exact h)
      go_wp2
      go_ret2
      exact ⟨by rw [← HF.out]; try rfl, HK.out⟩
end Go.Proofs.Ytapniojbnochiaa
