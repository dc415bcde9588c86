import Derived.Test.YtngbjdaaogbjmaaGreatTV3m
import Derived.WalkSpells
import Derived.Test.YtngbjdaaogbjmaaGreatK4
/-
  Walks: topdown.least.
-/
namespace Go.Proofs.YtngbjdaaogbjmaaGreat.Tr
open Go.RowKit

theorem info_row : (Tryz.prog.info? 109).map (fun i => (i.zero, i.size, i.bytes)) = some (some (.agg #[.int .i64 0, .int .u64 0, .int .u64 0]), 3, 24) := by kernel_rfl
theorem rcells_one (c : Nat) : ∀ u ∈ rcells c, u.oneCell' = true := fun u hu => by simp [rcells] at hu; rcases hu with rfl | rfl | rfl <;> rfl
theorem flat_one (L : List Nat) : ∀ u ∈ L.flatMap rcells, u.oneCell' = true := fun u hu => by
  obtain ⟨c, _, h⟩ := List.mem_flatMap.1 hu
  exact rcells_one c u h
theorem addr_add (b o j : Nat) : (⟨b, o, none⟩ : Addr).add j = ⟨b, o + j, none⟩ := by unfold Addr.add; split <;> simp_all
/-- append of a whole slice of rows to a row of the call's own. -/
theorem app_rws {ops : Array Oper} {rest : List Oper} {o : Oper} {a : Act} {Q : Exit → Act → World → Prop} {w : World} (hgd : o.guard = none) (s x : Operand)
    (ho : o.op = .call { callee := .builtin .append, args := #[s, x], argTypes := #[105, 105] }) (B : Nat) (v : Value) (L : List Nat) (hs : a.eval s = v) (hown : OwnRws w B v L)
    (ad : Addr) (n c : Nat) (M : List Nat) (hx : a.eval x = .slice (some ad) n c) (hu : RwsAt w (.slice (some ad) n c) M) (hl : L.length + M.length ≤ 10000) (hB : B ≤ w.heap.size)
    (h : ∀ v' w', OwnRws w' B v' (L ++ M) → Below B w w' → wpList Tryz.prog ops Q rest (a.put o.dst v') w') : wpList Tryz.prog ops Q (o :: rest) a w := by
  obtain ⟨i0, hi0, hz0, hz1, hz2⟩ := info_parts info_row
  obtain ⟨a', c', h1, h2, h3, h4, h5⟩ := hu
  cases h1
  refine wpList_append_own _ hgd s x 105 ho B 109 i0 _ 3 24 Tryz.underlying105 hi0 hz0 hz1 hz2 rfl (by decide) v L.length _ hs hown.1 ad M.length c (M.flatMap rcells) hx (len_flat M) ?_ (flat_one M) (by simp [maxLen]; omega) (by omega) hB ?_
  · intro j u hj
    have hj' : j < M.length * 3 := by
      rw [← len_flat]
      exact (List.getElem?_eq_some_iff.1 hj).1
    obtain ⟨b, o, h6, h7⟩ := h5 (j / 3) (by omega)
    cases h6
    have e := flat_get M (j / 3) (by omega) (j % 3) (by omega)
    rw [show j / 3 * 3 + j % 3 = j by omega, hj] at e
    have := h7 (j % 3) u e.symm
    rw [addr_add]
    rw [show o + j = o + j / 3 * 3 + j % 3 by omega]
    exact this
  · intro v' w' h6 h7 _
    refine h v' w' ⟨by rw [List.flatMap_append, List.length_append]; exact h6, by simp; omega, fun c hc => ?_⟩ (grown_below h7 hown.1 hB)
    rcases List.mem_append.1 hc with hc | hc
    · exact hown.2.2 c hc
    · exact h4 c hc
theorem own_emptyR (w : World) (B : Nat) (hB : B ≤ w.heap.size) : OwnRws (w.alloc (.cells #[] 109)) B (.slice (some ⟨w.heap.size, 0, none⟩) 0 0) [] :=
  ⟨⟨by simp, .inr ⟨w.heap.size, 0, #[], rfl, hB, heap_alloc_new w _, Nat.le_refl _, by unfold maxLen; omega, by simp, by simp⟩⟩, by simp, by simp⟩
def DecidesR (g : Nat) (lb : Array Value) (p : Nat → Bool) (w : World) : Prop :=
  ∀ (W : World) (x : Nat), Kept w W → RowLt 152 x → Calls Tryz.prog g (#[rowV x] ++ lb) W fun e W' => e = .returned (.bool (p x)) ∧ Kept W W'
set_option maxRecDepth 100000 in
theorem indexR_any (g : Nat) (lb : Array Value) (eg : ∀ args w, (callFunc g args).run Tryz.prog w = .ok (.enter g args) w) (p : Nat → Bool) (v : Value) (L : List Nat) (w : World)
    (hp : DecidesR g lb p w) (hv : RwsAt w v L) :
    Calls Tryz.prog 185 #[v, .func (.func g) #[] lb] w fun e w' => (∃ n : Int, e = .returned (.int .i64 n) ∧ (decide (0 ≤ n) = L.any p)) ∧ Kept w w' := by
  obtain ⟨a, c, rfl, ⟨hc, _⟩, hl, hlt, hx⟩ := hv
  obtain ⟨n, hn⟩ : ∃ n, n = L.length := ⟨_, rfl⟩
  have hbig : n ≤ 10000 := by omega
  rw [← hn]
  have HX := Lib.hid hx
  have HN := Lib.hid hn
  have HP := Lib.hid hp
  have HLT := Lib.hid hlt
  clear hx hn hp hl hc hlt
  go_enter Tryz.func185, Tryz.ntmps185
  go_wp2
  go_loopg [8] n (fun kx i wr => ∃ k : Nat, k ≤ n ∧ i = .int .i64 k ∧ n - k ≤ kx ∧ Hid (∀ x ∈ L.take k, p x = false) ∧ Hid (Kept w wr))
  case atStart => exact ⟨0, Nat.zero_le _, rfl, by omega, Lib.hid (by simp), Lib.hid (Kept.refl _)⟩
  case round =>
    obtain ⟨k, hk, rfl, hkx, HF, HK⟩ := hrel
    by_cases hlt : k < n
    · have hkl : k < L.length := by have := HN.out; omega
      obtain ⟨b, o, rfl, hrg⟩ := HX.out k hkl
      have hrg2 := range_kept hrg HK.out
      have hxl := HLT.out L[k] (List.getElem_mem _)
      obtain ⟨x, hxx⟩ : ∃ x, x = L[k] := ⟨_, rfl⟩
      rw [← hxx] at hrg2 hxl
      have HXX := Lib.hid hxx
      have HRG : Hid (wr.rangeAt b (o + k * 3) [.int .i64 (evW x), .int .u64 (loW x), .int .u64 (hiW x)]) := Lib.hid hrg2
      have HC : Hid (∀ W, Kept w W → Calls Tryz.prog g (#[.agg #[.int .i64 (evW x), .int .u64 (loW x), .int .u64 (hiW x)]] ++ lb) W fun e W' => e = .returned (.bool (p x)) ∧ Kept W W') := Lib.hid fun W hk => HP.out W x hk hxl
      have hkn : (k : Int) < (n : Int) := by omega
      obtain ⟨z0, hz0⟩ : ∃ z, z = evW x := ⟨_, rfl⟩
      obtain ⟨z1, hz1⟩ : ∃ z, z = loW x := ⟨_, rfl⟩
      obtain ⟨z2, hz2⟩ : ∃ z, z = hiW x := ⟨_, rfl⟩
      rw [← hz0, ← hz1, ← hz2] at HRG HC
      clear hrg hrg2 hxx hxl hz0 hz1 hz2
      cases hq : p x with
      | true =>
        rw [hq] at HC
        have HQ := Lib.hid hq
        clear hq
        go_wp2_with (first | (with_reducible refine wpList_load_mid rfl 109 _ rfl b (o + k * 3) rfl _ _ HRG.out Tryz.underlying109 rfl (by kernel_rfl) ?_) | (go_at_fn g; refine (HC.out _ HK.out).mono ?_; rintro e w' ⟨rfl, hK2⟩))
        go_ret
        refine ⟨⟨k, rfl, ?_⟩, HK.out.trans hK2⟩
        have : L.any p = true := List.any_eq_true.2 ⟨x, by rw [HXX.out]; exact List.getElem_mem _, HQ.out⟩
        rw [this]; simp
      | false =>
        rw [hq] at HC
        have HQ := Lib.hid hq
        clear hq
        go_wp2_with (first | (with_reducible refine wpList_load_mid rfl 109 _ rfl b (o + k * 3) rfl _ _ HRG.out Tryz.underlying109 rfl (by kernel_rfl) ?_) | (go_at_fn g; refine (HC.out _ HK.out).mono ?_; rintro e w' ⟨rfl, hK2⟩))
        go_roundg (n - (k + 1))
        case measure => omega
        case rel =>
          refine ⟨k + 1, by omega, by go_num, Nat.le_refl _, Lib.hid ?_, Lib.hid (HK.out.trans hK2)⟩
          intro y hy
          rw [List.take_succ_eq_append_getElem hkl] at hy
          rcases List.mem_append.1 hy with hy | hy
          · exact HF.out y hy
          · simp at hy; rw [hy, ← HXX.out]; exact HQ.out
    · go_wp2
      go_ret
      refine ⟨⟨-1, rfl, ?_⟩, HK.out⟩
      have hh := HF.out
      rw [List.take_of_length_le (by have := HN.out; omega)] at hh
      have : L.any p = false := by rw [List.any_eq_false]; intro y hy; simp [hh y hy]
      rw [this]; rfl
set_option maxRecDepth 100000 in
theorem hasR_any (g : Nat) (lb : Array Value) (eg : ∀ args w, (callFunc g args).run Tryz.prog w = .ok (.enter g args) w) (p : Nat → Bool) (v : Value) (L : List Nat) (w : World)
    (hp : DecidesR g lb p w) (hv : RwsAt w v L) :
    Calls Tryz.prog 137 #[v, .func (.func g) #[] lb] w fun e w' => e = .returned (.bool (L.any p)) ∧ Kept w w' := by
  have h := indexR_any g lb eg p v L w hp hv
  have H := Lib.hid h
  clear h hp hv eg
  obtain ⟨r, hr⟩ : ∃ r, r = L.any p := ⟨_, rfl⟩
  rw [← hr] at H ⊢
  clear hr
  go_enter Tryz.func137, Tryz.ntmps137
  go_wp2_with (go_at_call 185; refine H.out.mono ?_; rintro e w' ⟨⟨n, rfl, hn⟩, hK⟩; have HN := Lib.hid hn; clear hn)
  go_ret
  exact ⟨by rw [← HN.out]; rfl, hK⟩
set_option maxRecDepth 100000 in
theorem decides_part (c B : Nat) (w : World) (hc : RowLt 152 c) (h0 : w.cell? ⟨B, 0, none⟩ = some (.int .i64 (evW c))) (h1 : w.cell? ⟨B, 1, none⟩ = some (.int .u64 (loW c))) (h2 : w.cell? ⟨B, 2, none⟩ = some (.int .u64 (hiW c))) :
    DecidesR 138 #[.pointer (some ⟨B, 0, none⟩)] (fun t => subN t c) w := by
  intro W x hK hx
  show Calls Tryz.prog _ _ W fun e W' => e = .returned (.bool (subN x c)) ∧ Kept W W'
  have h0' := hK.cell h0
  have h1' := hK.cell h1
  have h2' := hK.cell h2
  have HP : Hid (∀ W', Calls Tryz.prog 139 #[rowV x, rowV c] W' fun e w' => e = .returned (.bool (subN x c)) ∧ ∃ C O, w' = (W'.alloc C).alloc O) := Lib.hid fun W' => twithin_any hx hc W'
  have hbl : B < W.heap.size := by
    by_cases h : B < W.heap.size
    · exact h
    · simp [World.cell?, Array.getElem?_eq_none (Nat.le_of_not_lt h)] at h0'
  unfold rowV at *
  generalize subN x c = q at *
  generalize evW c = y0 at *
  generalize loW c = y1 at *
  generalize hiW c = y2 at *
  generalize evW x = z0 at *
  generalize loW x = z1 at *
  generalize hiW x = z2 at *
  clear h0 h1 h2 hK hx hc
  show Calls Tryz.prog 138 #[.agg #[.int .i64 z0, .int .u64 z1, .int .u64 z2], .pointer (some ⟨B, 0, none⟩)] W _
  go_enter Tryz.func138, Tryz.ntmps138
  go_wp2_with (go_at_call 139; refine (HP.out _).mono ?_; rintro e w' ⟨rfl, C, O, rfl⟩)
  go_ret
  exact ⟨rfl, (((Kept.refl _).alloc _).alloc _).alloc _⟩
/-- append of one row that lies in a block of its own. -/
theorem app_row {ops : Array Oper} {rest : List Oper} {o : Oper} {a : Act} {Q : Exit → Act → World → Prop} {w : World} (hgd : o.guard = none) (s x : Operand)
    (ho : o.op = .call { callee := .builtin .append, args := #[s, x], argTypes := #[105, 105] }) (B : Nat) (v : Value) (L : List Nat) (hs : a.eval s = v) (hown : OwnRws w B v L)
    (g c : Nat) (hx : a.eval x = .slice (some ⟨g, 0, none⟩) 1 1) (hu : w.rangeAt g 0 (rcells c)) (hc : RowLt 152 c) (hl : L.length < 10000) (hB : B ≤ w.heap.size)
    (h : ∀ v' w', OwnRws w' B v' (L ++ [c]) → Below B w w' → wpList Tryz.prog ops Q rest (a.put o.dst v') w') : wpList Tryz.prog ops Q (o :: rest) a w :=
  app_rws hgd s x ho B v L hs hown ⟨g, 0, none⟩ 1 1 [c] hx ⟨_, 1, rfl, ⟨by simp, fun h => by cases h⟩, by simp, by simpa using hc, fun i hi => ⟨g, 0, rfl, by
    have : i = 0 := by simpa using hi
    subst this; simpa using hu⟩⟩ (by simp; omega) hB h
theorem minN_take (l : List Nat) (k : Nat) (h : k < l.length) : minN (l.take (k + 1)) = keepN (minN (l.take k)) l[k] := by
  unfold minN
  rw [List.take_succ_eq_append_getElem h, List.foldl_append]; rfl
theorem range_row (w : World) (x0 x1 x2 : Value) (e : TypeId) : (w.alloc (.cells #[x0, x1, x2] e)).rangeAt w.heap.size 0 [x0, x1, x2] := by
  intro j v hj
  match j, hj with
  | 0, hj => simp at hj; subst hj; simp
  | 1, hj => simp at hj; subst hj; simp
  | 2, hj => simp at hj; subst hj; simp
end Go.Proofs.YtngbjdaaogbjmaaGreat.Tr
