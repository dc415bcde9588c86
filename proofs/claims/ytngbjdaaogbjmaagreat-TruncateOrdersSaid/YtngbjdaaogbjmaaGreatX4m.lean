import Derived.Test.YtngbjdaaogbjmaaGreatX3m
/-
  Walks: faultlineref31.with. (Printed by gen_X4.py.)
-/
namespace Go.Proofs.YtngbjdaaogbjmaaGreat
open Go.RowKit
variable {Z : Option Nat}

theorem OwnInts.store_lt {w : World} {B g : Nat} {v : Value} {xs : List Int} (h : OwnInts w B v xs) (hg : g < B) (i : Nat) (u : Value) : OwnInts (w.setCell ⟨g, i, none⟩ u) B v xs := by
  obtain ⟨⟨h1, h2⟩, h3⟩ := h
  refine ⟨⟨h1, h2.imp id ?_⟩, h3⟩
  rintro ⟨g2, cap, cur, h4, h5, h6, h7⟩
  exact ⟨g2, cap, cur, h4, h5, (Below.heap_setCell w ⟨g, i, none⟩ u g2 (show g2 ≠ g by omega)).trans h6, h7⟩
theorem RowAt.below {w w' : World} {B g : Nat} {e : TypeId} {xs : List Value} (h : RowAt w g e xs) (hb : Below B w w') (hg : g < B) : RowAt w' g e xs := h.same (hb.block g hg)
theorem filter_take (p : Nat → Bool) (l : List Nat) (k : Nat) (h : k < l.length) : (l.take (k + 1)).filter p = (l.take k).filter p ++ (if p l[k] = true then [l[k]] else []) := by
  rw [List.take_succ_eq_append_getElem h, List.filter_append]
  cases hp : p l[k] <;> simp [hp]
theorem filter_take_len (p : Nat → Bool) (l : List Nat) (k : Nat) : ((l.take k).filter p).length ≤ l.length :=
  Nat.le_trans (List.length_filter_le ..) (by rw [List.length_take]; omega)
set_option maxRecDepth 100000 in
theorem rrwith_ev (r a V : Nat) (v : Value) (T : Int) (hs : ∃ a n c, v = .slice a n c) (hV : V ≤ 24) (ha : a < V) (u : Value) (w : World) (hu : NdsAt Z w u r) :
    Calls Tryz.prog 186 #[.agg #[.int .i64 V, v, .int .i64 T], .agg #[.int .i64 (evW r), u], .int .i64 a] w fun e w' => (∃ u', e = .returned (.agg #[.int .i64 (evW (r ||| 2 ^ a)), u']) ∧ NdsAt Z w' u' (r ||| 2 ^ a)) ∧ Kept w w' := by
  obtain ⟨sa, n, c, rfl⟩ := hs
  have h1 : (a : Int) < (V : Int) := by omega
  have h2 : ¬ (a : Int) < 0 := by omega
  have p1 := pow_i64 a (by omega)
  have hp := pow_lt24 (show a < 24 by omega)
  have HU : Hid (∀ W, Kept w W → NdsAt Z W u (r ||| 2 ^ a)) := Lib.hid fun W hk => by
    have := hu.kept hk
    unfold NdsAt at this ⊢
    rw [nodesOf_ev r a (by omega)]; exact this
  rw [(ev_with (show a < 24 by omega)).1]
  obtain ⟨ua, uc, rfl⟩ := hu.shape
  obtain ⟨z, hz⟩ : ∃ z, z = 2 ^ a := ⟨_, rfl⟩
  have hev := evW_lt r
  generalize evW r = e0 at *
  rw [← hz] at p1 hp HU ⊢
  have p2 := or_i64 e0 z (by omega) (by omega)
  clear hz hu
  obtain ⟨y, hy⟩ : ∃ y, y = e0 ||| z := ⟨_, rfl⟩
  rw [← hy] at p2 ⊢
  clear hy
  generalize (nodesOf r).length = un at *
  go_enter Tryz.func186, Tryz.ntmps186
  go_wp2
  go_region
  all_goals go_wp2
  all_goals exact bodyPost_ret (v := .agg #[.int .i64 y, .slice ua un uc]) (by simp [results, Tryz.results186, go_sem]) rfl ⟨⟨_, rfl, HU.out _ (by first | exact ((((Kept.refl _).alloc _).alloc _).alloc _) | exact ((((Kept.refl _).alloc _).alloc _).alloc _).drew)⟩, by first | exact ((((Kept.refl _).alloc _).alloc _).alloc _) | exact ((((Kept.refl _).alloc _).alloc _).alloc _).drew⟩
set_option maxRecDepth 100000 in
set_option maxHeartbeats 4000000 in
theorem rrwith_node (r j V : Nat) (v : Value) (T : Int) (hs : ∃ a n c, v = .slice a n c) (hV : V ≤ 24) (hj : j < 128) (u : Value) (w : World) (hZ : ∀ z, Z = some z → z < w.heap.size) (hu : NdsAt Z w u r) :
    Calls Tryz.prog 186 #[.agg #[.int .i64 V, v, .int .i64 T], .agg #[.int .i64 (evW r), u], .int .i64 (V + j : Nat)] w fun e w' => (∃ u', e = .returned (.agg #[.int .i64 (evW (r ||| 2 ^ (24 + j))), u']) ∧ NdsAt Z w' u' (r ||| 2 ^ (24 + j))) ∧ Kept w w' := by
  obtain ⟨sf, nf, cf, rfl⟩ := hs
  rw [evW_or]
  have HFIN := Lib.hid (nodesOf_node r j hj)
  have HZ : Hid (∀ {W : World} {v : Value} {xs : List Int}, OwnInts W (w.heap.size + 4) v xs → ∀ g, v.ownBlock = some g → Z ≠ some g) := Lib.hid fun ho g hg hz => by
    have h1 := (ho.1.lt g hg).1
    have h2 := hZ g hz
    omega
  obtain ⟨sa, ca, rfl⟩ := hu.shape
  have HG := Lib.hid (fun i hi => hu.get i hi)
  have hla := nodesOf_len r
  obtain ⟨t, ht⟩ : ∃ t, t = r ||| 2 ^ (24 + j) := ⟨_, rfl⟩
  rw [← ht] at HFIN ⊢
  clear hu ht hZ
  generalize nodesOf r = l at *
  generalize evW r = ev at *
  obtain ⟨na, hna⟩ : ∃ n, n = l.length := ⟨_, rfl⟩
  rw [← hna] at hla ⊢
  have HNA := Lib.hid hna
  obtain ⟨a, haj⟩ : ∃ a, a = V + j := ⟨_, rfl⟩
  rw [← haj]
  have h1 : ¬ (a : Int) < (V : Int) := by omega
  have h3 : IntKind.i64.wrap ((a : Int) - (V : Int)) = (j : Int) := by rw [IntKind.wrap_i64]; omega
  have h4 : (a : Int) - (V : Int) = (j : Int) := by omega
  clear hna haj
  go_enter Tryz.func186, Tryz.ntmps186
  go_wp2
  obtain ⟨L0, hL0⟩ : ∃ L : World, L = ((w.alloc (.cells #[.int .i64 V, .slice sf nf cf, .int .i64 T] 24)).alloc (.cells #[.int .i64 ev, .slice sa na ca] 118)).alloc (.cells #[.int .i64 0, .slice none 0 0] 118) := ⟨_, rfl⟩
  have hsz0 : L0.heap.size = w.heap.size + 3 := by rw [hL0]; simp
  have HK0 : Hid (Kept w L0) := Lib.hid (by rw [hL0]; exact (((Kept.refl _).alloc _).alloc _).alloc _)
  have c1 : L0.cell? ⟨w.heap.size + 1, 1, none⟩ = some (.slice sa na ca) := by rw [hL0]; exact ((Kept.refl _).alloc _).cell (by simp)
  have HR2 : Hid (RowAt L0 (w.heap.size + 1 + 1) 118 [.int .i64 0, .slice none 0 0]) := Lib.hid (by rw [hL0]; have := RowAt.made ((w.alloc (.cells #[.int .i64 V, .slice sf nf cf, .int .i64 T] 24)).alloc (.cells #[.int .i64 ev, .slice sa na ca] 118)) #[.int .i64 0, .slice none 0 0] 118; simpa using this)
  have HR3 : Hid (RowAt (L0.alloc (.cells #[.int .i64 ev, .slice none 0 0] 118)) (w.heap.size + 1 + 1 + 1) 118 [.int .i64 ev, .slice none 0 0]) := Lib.hid (by have := RowAt.made L0 #[.int .i64 ev, .slice none 0 0] 118; rw [hsz0] at this; exact this)
  have HL0 := Lib.hid hL0
  clear hL0
  go_loopg [35] na (fun kx s35 wr => ∃ (k : Nat) (vo : Value), s35 = .int .i64 k ∧ k ≤ na ∧ na - k ≤ kx ∧ Hid (OwnInts wr (w.heap.size + 4) vo (ofN ((l.take k).filter (fun x => decide (x < j))))) ∧ Hid (RowAt wr (w.heap.size + 1 + 1 + 1) 118 [.int .i64 ev, vo]) ∧ Hid (Kept L0 wr))
  case atStart => exact ⟨0, _, rfl, Nat.zero_le _, by omega, Lib.hid (OwnInts.nil _ _), Lib.hid (by have := HR3.out; rw [HL0.out] at this; exact this), Lib.hid (by rw [HL0.out]; exact (Kept.refl _).alloc _)⟩
  case round =>
    obtain ⟨k, vo, rfl, hk, hkx, HO, HR, HK⟩ := hrel
    have d1 := HK.out.cell c1
    have hszr := HR.out.lt
    have m1 := HR.out.cell (i := 1) (by simp)
    have f1 := HR.out.free 1
    simp only [List.getElem_cons_succ, List.getElem_cons_zero] at m1
    obtain ⟨oa, on, oc, rfl⟩ := HO.out.ints.shape
    by_cases hlt : k < na
    · have hkl : k < l.length := by have := HNA.out; omega
      obtain ⟨bb, ob, rfl, hcb0⟩ := HG.out k (by rw [← HNA.out]; exact hlt)
      have hcb := (HK0.out.trans HK.out).cell hcb0
      have hnx := filter_take (fun x => decide (x < j)) l k hkl
      have hfl := filter_take_len (fun x => decide (x < j)) l k
      obtain ⟨x, hx⟩ : ∃ x, x = l[k] := ⟨_, rfl⟩
      rw [← hx] at hcb hnx
      have hkn : (k : Int) < (na : Int) := by omega
      clear hcb0 hx
      by_cases hxj : x < j
      · rw [if_pos (by simpa using hxj)] at hnx
        have hlen : (ofN ((l.take k).filter (fun x => decide (x < j)))).length < 17592186044416 := by have := HNA.out; simp [ofN] at hfl ⊢; omega
        have hnxi : ofN ((l.take (k + 1)).filter (fun x => decide (x < j))) = ofN ((l.take k).filter (fun x => decide (x < j))) ++ [(x : Int)] := by rw [hnx]; simp [ofN]
        have HNX := Lib.hid hnxi
        have hxj' : (x : Int) < (j : Int) := by omega
        clear hnx hnxi hfl
        generalize hfk : ofN ((l.take k).filter (fun x => decide (x < j))) = fk at *
        go_wp2_with (at_builtin; refine app_int rfl _ _ rfl (w.heap.size + 4) _ fk rfl (HO.out.kept ((Kept.refl _).alloc _)) _ (x : Int) rfl (by simp) hlen (by simp; omega) ?_; intro v7 w7 hown7 _ hb7; have HR7 := Lib.hid ((HR.out.kept ((Kept.refl wr).alloc _)).below hb7 (by omega)); have O7 := Lib.hid hown7; have HK7 : Hid (Kept L0 w7) := Lib.hid (Below.trans (HK.out.alloc _) (Below.mono hb7 (by omega))); have n1 := HR7.out.cell (i := 1) (by simp); have g1 := HR7.out.free 1; obtain ⟨pa, pn, pc, rfl⟩ := hown7.ints.shape; clear hown7 hb7)
        go_roundg (na - (k + 1))
        case measure => omega
        case rel => exact ⟨k + 1, _, by go_num, by omega, Nat.le_refl _, Lib.hid (by rw [HNX.out]; exact O7.out.store_lt (by omega) _ _), Lib.hid (HR7.out.store 1 _), Lib.hid (HK7.out.store (by omega) 1 _)⟩
      · rw [if_neg (by simpa using hxj), List.append_nil] at hnx
        have HO2 : Hid (OwnInts wr (w.heap.size + 4) (.slice oa on oc) (ofN ((l.take (k + 1)).filter (fun x => decide (x < j))))) := Lib.hid (by rw [hnx]; exact HO.out)
        have hxj' : ¬ (x : Int) < (j : Int) := by omega
        clear hnx hfl
        go_wp2
        go_roundg (na - (k + 1))
        case measure => omega
        case rel => exact ⟨k + 1, _, by go_num, by omega, Nat.le_refl _, HO2, HR, HK⟩
    · have hkn : ¬ (k : Int) < (na : Int) := by omega
      have hfl := filter_take_len (fun x => decide (x < j)) l k
      have HOA : Hid (OwnInts wr (w.heap.size + 4) (.slice oa on oc) (ofN (l.filter (fun x => decide (x < j))))) := Lib.hid (by have h := HO.out; rw [show k = na by omega, HNA.out, List.take_length] at h; exact h)
      rw [show k = na by omega, HNA.out, List.take_length] at hfl
      have hlen : (ofN (l.filter (fun x => decide (x < j)))).length < 17592186044416 := by have := HNA.out; simp [ofN] at hfl ⊢; omega
      obtain ⟨fa, hfa⟩ : ∃ fa, fa = l.filter (fun x => decide (x < j)) := ⟨_, rfl⟩
      rw [← hfa] at HFIN HOA hlen hfl
      clear hfa HO
      go_wp2_with (at_builtin; refine app_int rfl _ _ rfl (w.heap.size + 4) _ (ofN fa) rfl (HOA.out.kept ((Kept.refl _).alloc _)) _ (j : Int) rfl (by simp) hlen (by simp; omega) ?_; intro v7 w7 hown7 _ hb7; have HR7 := Lib.hid ((HR.out.kept ((Kept.refl wr).alloc _)).below hb7 (by omega)); have O7 := Lib.hid hown7; have HK7 : Hid (Kept L0 w7) := Lib.hid (Below.trans (HK.out.alloc _) (Below.mono hb7 (by omega))); have n1 := HR7.out.cell (i := 1) (by simp); have g1 := HR7.out.free 1; obtain ⟨pa, pn, pc, rfl⟩ := hown7.ints.shape; have q1 := (HK7.out.cell c1); clear hown7 hb7)
      have HO8 : Hid (OwnInts (w7.setCell ⟨w.heap.size + 1 + 1 + 1, 1, none⟩ (.slice pa pn pc)) (w.heap.size + 4) (.slice pa pn pc) (ofN (fa ++ [j]))) := Lib.hid (by have := O7.out.store_lt (g := w.heap.size + 1 + 1 + 1) (by omega) 1 (.slice pa pn pc); simpa [ofN] using this)
      have HR8 : Hid (RowAt (w7.setCell ⟨w.heap.size + 1 + 1 + 1, 1, none⟩ (.slice pa pn pc)) (w.heap.size + 1 + 1 + 1) 118 [.int .i64 ev, .slice pa pn pc]) := Lib.hid (HR7.out.store 1 _)
      have HK8 : Hid (Kept L0 (w7.setCell ⟨w.heap.size + 1 + 1 + 1, 1, none⟩ (.slice pa pn pc))) := Lib.hid (HK7.out.store (by omega) 1 _)
      clear HOA HR HK O7 HR7 HK7 d1 m1 f1 n1 g1 q1
      go_loopg [58] na (fun kx s58 wr => ∃ (k : Nat) (vo : Value), s58 = .int .i64 k ∧ k ≤ na ∧ na - k ≤ kx ∧ Hid (OwnInts wr (w.heap.size + 4) vo (ofN ((fa ++ [j]) ++ (l.take k).filter (fun x => decide (j < x))))) ∧ Hid (RowAt wr (w.heap.size + 1 + 1 + 1) 118 [.int .i64 ev, vo]) ∧ Hid (Kept L0 wr))
      case atStart => exact ⟨0, _, rfl, Nat.zero_le _, by omega, Lib.hid (by have := HO8.out; simpa using this), HR8, HK8⟩
      case round =>
        obtain ⟨k, vo, rfl, hk, hkx, HO, HR, HK⟩ := hrel
        have d1 := HK.out.cell c1
        have hszr := HR.out.lt
        have m1 := HR.out.cell (i := 1) (by simp)
        have f1 := HR.out.free 1
        simp only [List.getElem_cons_succ, List.getElem_cons_zero] at m1
        obtain ⟨oa, on, oc, rfl⟩ := HO.out.ints.shape
        by_cases hlt : k < na
        · have hkl : k < l.length := by have := HNA.out; omega
          obtain ⟨bb, ob, rfl, hcb0⟩ := HG.out k (by rw [← HNA.out]; exact hlt)
          have hcb := (HK0.out.trans HK.out).cell hcb0
          have hnx := filter_take (fun x => decide (j < x)) l k hkl
          have hfl := filter_take_len (fun x => decide (j < x)) l k
          obtain ⟨x, hx⟩ : ∃ x, x = l[k] := ⟨_, rfl⟩
          rw [← hx] at hcb hnx
          have hkn : (k : Int) < (na : Int) := by omega
          clear hcb0 hx
          by_cases hxj : j < x
          · rw [if_pos (by simpa using hxj)] at hnx
            have hlen : (ofN ((fa ++ [j]) ++ (l.take k).filter (fun x => decide (j < x)))).length < 17592186044416 := by have := HNA.out; simp [ofN] at hfl ⊢; omega
            have hnxi : ofN ((fa ++ [j]) ++ (l.take (k + 1)).filter (fun x => decide (j < x))) = ofN ((fa ++ [j]) ++ (l.take k).filter (fun x => decide (j < x))) ++ [(x : Int)] := by rw [hnx]; simp [ofN]
            have HNX := Lib.hid hnxi
            have hxj' : (j : Int) < (x : Int) := by omega
            clear hnx hnxi hfl
            generalize hfk : ofN ((fa ++ [j]) ++ (l.take k).filter (fun x => decide (j < x))) = fk at *
            go_wp2_with (at_builtin; refine app_int rfl _ _ rfl (w.heap.size + 4) _ fk rfl (HO.out.kept ((Kept.refl _).alloc _)) _ (x : Int) rfl (by simp) hlen (by simp; omega) ?_; intro v7 w7 hown7 _ hb7; have HR7 := Lib.hid ((HR.out.kept ((Kept.refl wr).alloc _)).below hb7 (by omega)); have O7 := Lib.hid hown7; have HK7 : Hid (Kept L0 w7) := Lib.hid (Below.trans (HK.out.alloc _) (Below.mono hb7 (by omega))); have n1 := HR7.out.cell (i := 1) (by simp); have g1 := HR7.out.free 1; obtain ⟨pa, pn, pc, rfl⟩ := hown7.ints.shape; clear hown7 hb7)
            go_roundg (na - (k + 1))
            case measure => omega
            case rel => exact ⟨k + 1, _, by go_num, by omega, Nat.le_refl _, Lib.hid (by rw [HNX.out]; exact O7.out.store_lt (by omega) _ _), Lib.hid (HR7.out.store 1 _), Lib.hid (HK7.out.store (by omega) 1 _)⟩
          · rw [if_neg (by simpa using hxj), List.append_nil] at hnx
            have HO2 : Hid (OwnInts wr (w.heap.size + 4) (.slice oa on oc) (ofN ((fa ++ [j]) ++ (l.take (k + 1)).filter (fun x => decide (j < x))))) := Lib.hid (by rw [hnx]; exact HO.out)
            have hxj' : ¬ (j : Int) < (x : Int) := by omega
            clear hnx hfl
            go_wp2
            go_roundg (na - (k + 1))
            case measure => omega
            case rel => exact ⟨k + 1, _, by go_num, by omega, Nat.le_refl _, HO2, HR, HK⟩
        · have hkn : ¬ (k : Int) < (na : Int) := by omega
          have HN : Hid (OwnInts wr (w.heap.size + 4) (.slice oa on oc) (ofN (nodesOf t))) := Lib.hid (by have h := HO.out; rw [show k = na by omega, HNA.out, List.take_length] at h; rw [HFIN.out]; simpa using h)
          have HR2' := Lib.hid (HR2.out.kept HK.out)
          have p0 := HR2'.out.cell (i := 0) (by simp)
          have p1 := HR2'.out.cell (i := 1) (by simp)
          have p2 := HR2'.out.free 0
          have p3 := HR2'.out.free 1
          have m0 := HR.out.cell (i := 0) (by simp)
          simp only [List.getElem_cons_succ, List.getElem_cons_zero] at m0 p0 p1
          clear HO
          go_wp2
          have HR9 := Lib.hid ((HR2'.out.store 0 (.int .i64 ev)).store 1 (.slice oa on oc))
          have r0 := HR9.out.cell (i := 0) (by simp)
          have r1 := HR9.out.cell (i := 1) (by simp)
          simp only [List.set_cons_succ, List.set_cons_zero, List.getElem_cons_succ, List.getElem_cons_zero] at r0 r1
          exact bodyPost_ret (v := .agg #[.int .i64 ev, .slice oa on oc]) (by simp [results, Tryz.results186, go_sem, r0, r1]) rfl ⟨⟨_, rfl, OwnInts.mono ((HN.out.store_lt (by omega) 0 _).store_lt (by omega) 1 _) (Nat.zero_le _), HZ.out HN.out⟩, ((HK0.out.trans HK.out).store (by omega) 0 _).store (by omega) 1 _⟩
theorem rrwith_any (r V : Nat) (v : Value) (T : Int) (hs : ∃ a n c, v = .slice a n c) (hV : V ≤ 24) (a : Int) (ha : 0 ≤ a ∧ a < (V : Int) + 128) (u : Value) (w : World) (hZ : ∀ z, Z = some z → z < w.heap.size) (hu : NdsAt Z w u r) :
    Calls Tryz.prog 186 #[.agg #[.int .i64 V, v, .int .i64 T], .agg #[.int .i64 (evW r), u], .int .i64 a] w fun e w' => (∃ u', e = .returned (.agg #[.int .i64 (evW (withC V r a)), u']) ∧ NdsAt Z w' u' (withC V r a)) ∧ Kept w w' := by
  unfold withC cond
  by_cases h : a < V
  · rw [if_pos h]
    have := rrwith_ev r a.toNat V v T hs hV (by omega) u w hu
    rw [show ((a.toNat : Nat) : Int) = a by omega] at this
    exact this
  · rw [if_neg h]
    have := rrwith_node r (a - V).toNat V v T hs hV (by omega) u w hZ hu
    rw [show ((V + (a - V).toNat : Nat) : Int) = a by omega] at this
    exact this
end Go.Proofs.YtngbjdaaogbjmaaGreat
