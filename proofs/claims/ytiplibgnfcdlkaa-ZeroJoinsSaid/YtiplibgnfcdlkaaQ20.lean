import Derived.Test.YtiplibgnfcdlkaaQ18
import Derived.Test.YtiplibgnfcdlkaaQ19
import Derived.Test.YtiplibgnfcdlkaaQ01
import Derived.Laws.EntriesVeiled
/-
  Walk: Each of decision.Sets, with List's function that collects.
-/
namespace Go.Proofs.Ytiplibgnfcdlkaa
open Go.RowKit

def natI (L : List Nat) : List Int := L.map fun (n : Nat) => (n : Int)
theorem natI_len (L : List Nat) : (natI L).length = L.length := List.length_map ..
/-- What a collecting function changes: a variable that holds a slice of ints. -/
def colT (ob : Nat) : ZT := ⟨ob, ob, ob⟩
def ColAt (w : World) (ob : Nat) (L : List Nat) : Prop := ∃ v, RowAt w ob 25 [v] ∧ OwnInts w 0 v (natI L)
theorem ColAt.lt {w : World} {ob : Nat} {L : List Nat} (h : ColAt w ob L) : ob < w.heap.size := by obtain ⟨_, h1, _⟩ := h; exact h1.lt
theorem ColAt.kept {w w' : World} {ob : Nat} {L : List Nat} (h : ColAt w ob L) (hk : Kept w w') : ColAt w' ob L := let ⟨v, h1, h2⟩ := h; ⟨v, h1.kept hk, h2.kept hk⟩
theorem ColAt.own_lt {w : World} {ob : Nat} {L : List Nat} (h : ColAt w ob L) {k : Nat} (hk : (colT ob).own w k) : k < w.heap.size := by
  obtain ⟨v, h1, h2⟩ := h
  rcases hk with rfl | rfl | rfl | ⟨u, e1, e2⟩
  · exact h1.lt
  · exact h1.lt
  · exact h1.lt
  · have := h1.cell (i := 0) (by simp)
    rw [show (colT ob).tb = ob from rfl] at e1
    rw [e1] at this
    obtain rfl : u = v := by simpa using this
    obtain ⟨cur, hc⟩ := Go.Proofs.Ytiplibgnfcdlkaa.own_lt h2.1 e2
    rcases Nat.lt_or_ge k w.heap.size with h | h
    · exact h
    · simp [Array.getElem?_eq_none h] at hc
theorem ColAt.box {w : World} {ob : Nat} {L : List Nat} (h : ColAt w ob L) {b i : Nat} {w' : World} {v : Value} (hk : Kept w w') (hb : w.heap.size ≤ b) (hc : w'.cell? ⟨b, i, none⟩ = some v) : Box (colT ob) w' b i v :=
  ⟨hc, fun ho => by have := h.own_lt (ZT.own_same (hk.block _ h.lt) ho); omega⟩
set_option maxRecDepth 100000 in
set_option maxHeartbeats 2000000 in
theorem zcol_any (ob s : Nat) (L : List Nat) (W : World) (h : ColAt W ob L) (hl : L.length < 1099511627776) :
    Calls Try.prog 57 #[.int .i64 s, .pointer (some ⟨ob, 0, none⟩)] W fun e w' => e = .returned (.tuple #[]) ∧ ColAt w' ob (L ++ [s]) ∧ TFrm (colT ob) W w' := by
  obtain ⟨v, hr, hv⟩ := h
  have c0 := hr.cell (i := 0) (by simp)
  simp only [List.getElem_cons_zero] at c0
  have f0 := hr.free 0
  obtain ⟨i0, hi0, hz0, hz1, hz2⟩ := info_parts info_int
  obtain ⟨m, hm⟩ : ∃ m, m = L.length := ⟨_, rfl⟩
  obtain ⟨a, cp, hvs⟩ : ∃ a cp, v = .slice a L.length cp := by
    rcases hv.1.2 with ⟨e1, e2⟩ | ⟨g, cap, cur, e1, _⟩
    · exact ⟨none, 0, by rw [e1]; rw [natI_len] at e2; rw [e2]⟩
    · exact ⟨_, _, by rw [e1, natI_len]⟩
  subst hvs
  have hown := hv.1
  rw [natI_len, ← hm] at hown
  rw [← hm] at c0 hl
  have hap : some ob ≠ (Value.slice a m cp).ownBlock := fun e => by
    obtain ⟨cur, h1⟩ := own_lt hown e.symm
    obtain ⟨cur2, h2, _⟩ := hr
    rw [h1] at h2
    cases h2
  have hlt := hr.lt
  have HAP := Lib.hid hap
  have HR := Lib.hid hr
  have HOW := Lib.hid hown
  have HM := Lib.hid hm
  have I0 := Lib.hid hi0
  have I1 := Lib.hid hz0
  have I2 := Lib.hid hz1
  have I3 := Lib.hid hz2
  have HO2 : Hid (∀ O, (W.alloc O).ownsRow 0 3 1 (.slice a m cp) m ((natI L).map (.int .i64))) := Lib.hid fun O => own_kept hown ((Kept.refl W).alloc O)
  have cB : ∀ O, (W.alloc O).cell? ⟨ob, 0, none⟩ = some (.slice a m cp) := fun O => ((Kept.refl W).alloc O).cell c0
  clear hr hv hown hm hap hi0 hz0 hz1 hz2
  go_enter Try.func57, Try.ntmps57
  go_wp2_with (at_builtin; (refine wpList_append_lies _ rfl _ _ 25 rfl 0 3 i0 _ 1 8 Try.underlying25 I0.out I1.out I2.out I3.out rfl (by omega) (.slice a m cp) m _ rfl (HO2.out _) ⟨W.heap.size, 0, none⟩ 1 1 [.int .i64 s] rfl rfl (World.news_of_block (cs := #[.int .i64 s]) (t := 3) (fr := (0, 0)) (heap_alloc_new W _)) (by simp [Value.oneCell']) (by omega) (by unfold maxLen; omega) (by omega) (Nat.zero_le _) (W.heap.size + 1) (by simp) ?_); intro gg cap w7 hown7 hgrow hat hlt7; have st7 := hgrow.cell (a := ⟨ob, 0, none⟩) (v := .slice a m cp) (cB _) HAP.out; have sf7 := (World.frozen?_of_block (a := ⟨ob, 0, none⟩) (hgrow.block ob (by simp; omega) HAP.out)).trans ((Below.frozen ((Kept.refl W).alloc _) (p := ⟨ob, 0, none⟩) hlt).trans f0))
  go_end0
  have hk1 : Kept W (W.alloc (.cells #[.int .i64 s] 3)) := (Kept.refl W).alloc _
  have hr7 := HR.out.same ((hgrow.block _ (by simp; omega) HAP.out).trans (hk1.block _ hlt))
  have hr8 : RowAt (w7.setCell ⟨ob, 0, none⟩ (.slice (some ⟨gg, 0, none⟩) (m + 1) cap)) ob 25 [.slice (some ⟨gg, 0, none⟩) (m + 1) cap] := by
    have := hr7.store 0 (.slice (some ⟨gg, 0, none⟩) (m + 1) cap)
    simpa using this
  have c6 := hr8.cell (i := 0) (by simp)
  simp only [List.getElem_cons_zero] at c6
  refine ⟨rfl, ⟨_, hr8, ?_, by have := HM.out; rw [natI_len, List.length_append, List.length_singleton]; omega⟩, TFrm.app (t := colT ob) c0 hk1 hgrow ?_ c6⟩
  · rw [natI_len, List.length_append, ← HM.out]
    have e : (natI (L ++ [s])).map (Value.int .i64) = (natI L).map (Value.int .i64) ++ [.int .i64 (s : Int)] := by unfold natI; rw [List.map_append, List.map_append]; rfl
    rw [e]
    refine own_block hown7 fun k hk => Below.heap_setCell w7 ⟨ob, 0, none⟩ _ k fun e => ?_
    obtain ⟨cur, h1⟩ := own_lt hown7 hk
    obtain ⟨cur2, h2, _⟩ := hr7
    have e : k = ob := e
    rw [e, h2] at h1
    cases h1
  · rcases hat with h | h
    · exact .inl h
    · exact .inr fun g hg => by
        have : gg = g := by simpa [Value.ownBlock] using hg
        omega
/-- The function value of a walk. -/
def eachV (b1 b2 b3 : Nat) : Value := .func (.func 84) #[] #[.pointer (some ⟨b1, 0, none⟩), .pointer (some ⟨b2, 0, none⟩), .pointer (some ⟨b3, 0, none⟩)]
def colV (ob : Nat) : Value := .func (.func 57) #[] #[.pointer (some ⟨ob, 0, none⟩)]
structure EachC (t : ZT) (b1 b2 b3 ob : Nat) (w0 W : World) (L : List Nat) : Prop where
  kept : Kept w0 W
  own : ∀ k, (colT ob).own W k → w0.heap.size ≤ k
  col : ColAt W ob L
  bx1 : Box (colT ob) W b1 0 (colV ob)
  bx2 : Box (colT ob) W b2 0 t.val
  bx3 : Box (colT ob) W b3 0 (eachV b1 b2 b3)
theorem EachC.frm {t : ZT} {b1 b2 b3 ob : Nat} {w0 W w' : World} {L L' : List Nat} (h : EachC t b1 b2 b3 ob w0 W L) (hf : TFrm (colT ob) W w') (ha : ColAt w' ob L') : EachC t b1 b2 b3 ob w0 w' L' :=
  ⟨hf.toKept h.kept h.own, hf.above h.kept.size h.own, ha, h.bx1.frm hf, h.bx2.frm hf, h.bx3.frm hf⟩
theorem map_or_or (L : List Nat) (x y : Nat) : (L.map fun s => s ||| y).map (fun s => x ||| s) = L.map fun s => (x ||| y) ||| s := by
  rw [List.map_map]
  apply List.map_congr_left
  intro s _
  show x ||| (s ||| y) = (x ||| y) ||| s
  rw [Nat.or_comm s y, Nat.or_assoc]
set_option maxRecDepth 100000 in
set_option maxHeartbeats 8000000 in
theorem zeach1_any (t : ZT) (N : List ZNode) (b1 b2 b3 ob : Nat) (w0 : World) (h0 : TblAt w0 t N) : ∀ r, r ≤ 1 + N.length → ∀ (x : Nat) (W : World) (L : List Nat), x < 16777216 → EachC t b1 b2 b3 ob w0 W L → L.length + zct N r ≤ 1099511627776 →
    Calls Try.prog 84 #[.int .i64 r, .int .i64 x, .pointer (some ⟨b1, 0, none⟩), .pointer (some ⟨b2, 0, none⟩), .pointer (some ⟨b3, 0, none⟩)] W fun e w' => e = .returned (.tuple #[]) ∧ ColAt w' ob (L ++ (zsets N r).map (fun s => x ||| s)) ∧ TFrm (colT ob) W w' := by
  intro r
  induction r using Nat.strongRecOn with
  | ind r ih =>
    intro hr x W L hx hC hL
    have hg := h0.good
    have d1 := hC.bx1.1
    have d2 := hC.bx2.1
    have d3 := hC.bx3.1
    have eg : ∀ args w, (callFunc 84 args).run Try.prog w = .ok (.enter 84 args) w := enters_of Try.func84 (by kernel_rfl) rfl
    have eg2 : ∀ args w, (callFunc 57 args).run Try.prog w = .ok (.enter 57 args) w := enters_of Try.func57 (by kernel_rfl) rfl
    unfold ZT.val at d2
    unfold colV at d1
    unfold eachV at d3
    by_cases h2 : r < 2
    · have h2i : (r : Int) < 2 := by omega
      rcases (show r = 0 ∨ r = 1 by omega) with rfl | rfl
      · have HE : Hid (ColAt W ob (L ++ (zsets N 0).map (fun s => x ||| s))) := Lib.hid (by rw [zsets_zero]; simpa using hC.col)
        clear d1 d2 d3 hC hL ih hr h0 hg eg eg2 hx
        go_enter Try.func84, Try.ntmps84
        go_wp2_with fail
        refine bodyPost_ret (v := .tuple #[]) (by simp [results, Try.results84, go_sem]) rfl ?_
        exact ⟨rfl, HE.out, TFrm.refl _ _⟩
      · have HCL := Lib.hid (zcol_any ob x L W hC.col (by rw [zct_one] at hL; omega))
        have HE : Hid (L ++ (zsets N 1).map (fun s => x ||| s) = L ++ [x]) := Lib.hid (by rw [zsets_one]; simp)
        clear d2 d3 hC hL ih hr h0 hg eg hx
        rw [HE.out]
        go_enter Try.func84, Try.ntmps84
        go_wp2_with fail
        refine HCL.out.mono ?_
        rintro e w5 ⟨rfl, h1, h3⟩
        have H1 := Lib.hid h1
        have H3 := Lib.hid h3
        clear h1 h3
        go_wp2_with fail
        refine bodyPost_ret (v := .tuple #[]) (by simp [results, Try.results84, go_sem]) rfl ?_
        exact ⟨rfl, H1.out, H3.out⟩
    · have h2i : ¬ (r : Int) < 2 := by omega
      obtain ⟨i, hi⟩ : ∃ i, r = i + 2 := ⟨r - 2, by omega⟩
      have hiN : i < N.length := by omega
      have hlo := hg.lo i hiN
      have hhi := hg.hi i hiN
      have hev := hg.ev i hiN
      have hlen := h0.len
      obtain ⟨ad, cp, c0, _, _, ⟨hc, hcn⟩, hxx⟩ := h0.cells
      obtain ⟨bb, oo, rfl, y0, y1, y2⟩ := hxx i hiN
      obtain ⟨nn, hn⟩ : ∃ n, n = N.length := ⟨_, rfl⟩
      have hi' : i < nn := by omega
      rw [← hn] at c0 hc hlen
      have hsets := zsets_node hg hiN
      have hct := zct_node hg hiN
      rw [← hi] at hsets hct
      rw [hct] at hL
      have hl0 := zsets_len hg N[i].lo (by omega)
      obtain ⟨nv, hnv⟩ : ∃ l, l = N[i].v := ⟨_, rfl⟩
      obtain ⟨l0, hl0'⟩ : ∃ l, l = N[i].lo := ⟨_, rfl⟩
      obtain ⟨l1, hl1'⟩ : ∃ l, l = N[i].hi := ⟨_, rfl⟩
      rw [← hl0'] at hlo y1 hsets hL hl0
      rw [← hl1'] at hhi y2 hsets hL
      rw [← hnv] at y0 hsets hev
      obtain ⟨pw, hpw⟩ : ∃ p, p = 2 ^ nv := ⟨_, rfl⟩
      obtain ⟨x2, hx2⟩ : ∃ y, y = x ||| pw := ⟨_, rfl⟩
      have hp24 : pw < 16777216 := by rw [hpw]; exact show 2 ^ nv < 2 ^ 24 from Nat.pow_lt_pow_right (by decide) hev
      have hx2l : x2 < 16777216 := by rw [hx2]; exact Nat.or_lt_two_pow (n := 24) hx hp24
      have hor : bits .or .i64 (x : Int) (IntKind.i64.wrap (2 ^ nv)) = (x2 : Int) := by
        have e : IntKind.i64.wrap (2 ^ nv) = (pw : Int) := by
          rw [IntKind.wrap_i64]
          have h1 : ((2 : Int) ^ nv) = (pw : Int) := by rw [hpw]; simp
          rw [h1]
          omega
        rw [e, or_i64 x pw (by omega) (by omega), ← hx2]
      rw [← hpw] at hsets
      have HFIN : Hid (L ++ (zsets N r).map (fun s => x ||| s) = (L ++ (zsets N l0).map (fun s => x ||| s)) ++ (zsets N l1).map (fun s => x2 ||| s)) := Lib.hid (by rw [hsets, List.map_append, map_or_or, ← hx2, List.append_assoc])
      have HC1 : Hid (∀ W', EachC t b1 b2 b3 ob w0 W' L → Calls Try.prog 84 #[.int .i64 l0, .int .i64 x, .pointer (some ⟨b1, 0, none⟩), .pointer (some ⟨b2, 0, none⟩), .pointer (some ⟨b3, 0, none⟩)] W' fun e w' => e = .returned (.tuple #[]) ∧ ColAt w' ob (L ++ (zsets N l0).map (fun s => x ||| s)) ∧ TFrm (colT ob) W' w') := Lib.hid fun W' hC' => ih l0 (by omega) (by omega) x W' L hx hC' (by omega)
      have HC2 : Hid (∀ W', EachC t b1 b2 b3 ob w0 W' (L ++ (zsets N l0).map (fun s => x ||| s)) → Calls Try.prog 84 #[.int .i64 l1, .int .i64 x2, .pointer (some ⟨b1, 0, none⟩), .pointer (some ⟨b2, 0, none⟩), .pointer (some ⟨b3, 0, none⟩)] W' fun e w' => e = .returned (.tuple #[]) ∧ ColAt w' ob (L ++ (zsets N r).map (fun s => x ||| s)) ∧ TFrm (colT ob) W' w') := Lib.hid fun W' hC' => by
        rw [HFIN.out]
        exact ih l1 (by omega) (by omega) x2 W' _ hx2l hC' (by rw [List.length_append, List.length_map, zsets_len hg l0 (by omega)]; omega)
      have ei : (r : Int) - 2 = (i : Int) := by omega
      have hri : (0 : Int) ≤ (i : Int) := by omega
      have hnv24 : (nv : Int) < 64 := by omega
      have c0' := hC.kept.cell c0
      have y0' := hC.kept.cell y0
      have y1' := hC.kept.cell y1
      have y2' := hC.kept.cell y2
      obtain ⟨w4, hw4⟩ : ∃ w4, w4 = W.alloc (.cells #[.int .i64 nv, .int .i64 l0, .int .i64 l1] 63) := ⟨_, rfl⟩
      have hk4 : Kept W w4 := by rw [hw4]; exact (Kept.refl _).alloc _
      have hx4 : RowAt w4 W.heap.size 63 [.int .i64 nv, .int .i64 l0, .int .i64 l1] := by rw [hw4]; exact RowAt.made W #[.int .i64 nv, .int .i64 l0, .int .i64 l1] 63
      have m0 := hx4.cell (i := 0) (by simp)
      have m1 := hx4.cell (i := 1) (by simp)
      have m2 := hx4.cell (i := 2) (by simp)
      simp only [List.getElem_cons_succ, List.getElem_cons_zero] at m0 m1 m2
      have g3 := hk4.cell d3
      have hfr4 : TFrm (colT ob) W w4 := TFrm.kept hk4 hC.col.lt
      have HBX : Hid (Box (colT ob) w4 W.heap.size 0 (.int .i64 nv) ∧ Box (colT ob) w4 W.heap.size 2 (.int .i64 l1)) := Lib.hid ⟨hC.col.box hk4 (Nat.le_refl _) m0, hC.col.box hk4 (Nat.le_refl _) m2⟩
      have HF4 := Lib.hid hfr4
      have HC4 : Hid (EachC t b1 b2 b3 ob w0 w4 L) := Lib.hid (hC.frm hfr4 (hC.col.kept hk4))
      have HW4 := Lib.hid hw4
      clear hi hiN hlo hhi hev hxx hn hsets hct hL hl0 hnv hl0' hl1' hpw hx2 hp24 hx2l hC ih hr hg h0 h2 hw4 hk4 hx4 hfr4 m0 m2 c0 y0 y1 y2 eg2 hx
      go_enter Try.func84, Try.ntmps84
      go_upto_region 4 with fail
      rw [← HW4.out]
      clear c0' y0' y1' y2' d1 d2 d3
      go_wp2_with fail
      refine (HC1.out _ HC4.out).mono ?_
      rintro e w5 ⟨rfl, ha5, hf5⟩
      have HC5 := Lib.hid (HC4.out.frm hf5 ha5)
      have HF5 := Lib.hid (HF4.out.trans hf5)
      have n0 := (HBX.out.1.frm hf5).1
      have n2 := (HBX.out.2.frm hf5).1
      have g5 := HC5.out.bx3.1
      unfold eachV at g5
      have k5 : Kept w5 w5.drew := (Kept.refl _).drew
      have A0 := k5.cell n0
      have A1 := k5.cell n2
      have A2 := k5.cell g5
      have HC6 : Hid (EachC t b1 b2 b3 ob w0 w5.drew (L ++ (zsets N l0).map (fun s => x ||| s))) := Lib.hid (HC5.out.frm (TFrm.kept k5 HC5.out.col.lt) (HC5.out.col.kept k5))
      have HF6 : Hid (TFrm (colT ob) W w5.drew) := Lib.hid (HF5.out.trans (TFrm.kept k5 HC5.out.col.lt))
      clear ha5 hf5 m1 g3 n0 n2 g5 k5
      go_upto_region 5 with fail
      go_region_with (go_at_call 84; (with_reducible refine (HC2.out _ HC6.out).mono ?_); rintro e w7 ⟨rfl, ha, hf⟩; have HA7 := Lib.hid ha; have HF7 := Lib.hid (HF6.out.trans hf); clear ha hf)
      all_goals
        go_wp2_with fail
        go_end0
        exact ⟨rfl, HA7.out, HF7.out⟩
end Go.Proofs.Ytiplibgnfcdlkaa

/-
  Walk: Each of decision.Sets, whole.
-/
namespace Go.Proofs.Ytiplibgnfcdlkaa
open Go.RowKit

theorem map_zero_or (L : List Nat) : L.map (fun s => 0 ||| s) = L := by
  have : (fun s : Nat => 0 ||| s) = id := funext fun s => Nat.zero_or s
  rw [this, List.map_id]
set_option maxRecDepth 100000 in
set_option maxHeartbeats 4000000 in
theorem zeach_any (t : ZT) (N : List ZNode) (r ob : Nat) (w0 W : World) (h0 : TblAt w0 t N) (hk : Kept w0 W) (hown : ∀ k, (colT ob).own W k → w0.heap.size ≤ k) (hc : ColAt W ob []) (hr : r ≤ 1 + N.length) :
    Calls Try.prog 56 #[t.val, .int .i64 r, colV ob] W fun e w' => e = .returned (.tuple #[]) ∧ ColAt w' ob (zsets N r) ∧ TFrm (colT ob) W w' := by
  have eg : ∀ args w, (callFunc 84 args).run Try.prog w = .ok (.enter 84 args) w := enters_of Try.func84 (by kernel_rfl) rfl
  obtain ⟨w9, hw9⟩ : ∃ w9, w9 = ((W.alloc (.cells #[.pointer (some ⟨t.tb, 0, none⟩)] 64)).alloc (.cells #[colV ob] 80)).alloc (.cells #[eachV (W.heap.size + 1) W.heap.size (W.heap.size + 1 + 1)] 103) := ⟨_, rfl⟩
  have hb9 := boxes3 hw9
  have hk9 : Kept W w9 := by rw [hw9]; exact (((Kept.refl _).alloc _).alloc _).alloc _
  have hfr : TFrm (colT ob) W w9 := TFrm.kept hk9 hc.lt
  have hC : EachC t (W.heap.size + 1) W.heap.size (W.heap.size + 1 + 1) ob w0 w9 [] :=
    ⟨hk.trans hk9, hfr.above hk.size hown, hc.kept hk9, hc.box hk9 (by omega) hb9.2.1, hc.box hk9 (by omega) hb9.1, hc.box hk9 (by omega) hb9.2.2⟩
  have hct := zct_max h0.good hr
  have hcall := zeach1_any t N (W.heap.size + 1) W.heap.size (W.heap.size + 1 + 1) ob w0 h0 r hr 0 w9 [] (by decide) hC (by simp; omega)
  rw [List.nil_append, map_zero_or] at hcall
  have HCALL := Lib.hid hcall
  have HF := Lib.hid hfr
  have c9 := hb9.2.2
  unfold eachV colV at hw9
  unfold eachV at c9
  have HW9 := Lib.hid hw9
  clear hw9 hb9 hk9 hfr hC hct hcall hc hr hown hk h0
  unfold ZT.val colV
  go_enter Try.func56, Try.ntmps56
  go_upto_region 3 with fail
  rw [← HW9.out]
  go_wp2_with fail
  refine HCALL.out.mono ?_
  rintro e w5 ⟨rfl, h1, h3⟩
  have H1 := Lib.hid h1
  have H3 := Lib.hid h3
  clear h1 h3
  go_wp2_with fail
  go_end0
  exact ⟨rfl, H1.out, HF.out.trans H3.out⟩
end Go.Proofs.Ytiplibgnfcdlkaa
