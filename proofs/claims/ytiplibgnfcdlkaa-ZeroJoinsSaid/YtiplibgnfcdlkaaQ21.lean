import Derived.Test.YtiplibgnfcdlkaaQ20
/-
  Walk: Small of decision.Sets.
-/
namespace Go.Proofs.Ytiplibgnfcdlkaa
open Go.RowKit

/-- The map of what has been seen. -/
def SeenAt (w : World) (sb : Nat) (S : List Nat) : Prop := ∃ L : List (Nat × Value), MapK ikV w sb L ∧ L.map Prod.fst = S ∧ ∀ p ∈ L, p.2 = .bool true
theorem seen_find {S : List Nat} {L : List (Nat × Value)} (h2 : L.map Prod.fst = S) (h3 : ∀ p ∈ L, p.2 = .bool true) (x : Nat) : (findK x L).getD (.bool false) = .bool (decide (x ∈ S)) := by
  cases h : findK x L with
  | none =>
    have := findK_none.1 h
    rw [h2] at this
    rw [decide_eq_false this]; rfl
  | some v =>
    have hm := findK_mem h
    have : x ∈ S := by rw [← h2]; exact List.mem_map.2 ⟨_, hm, rfl⟩
    have h4 : v = .bool true := h3 _ hm
    rw [decide_eq_true this, h4]; rfl
theorem run_len_K {P : Program} {κ : Type} {enc : κ → Value} {w : World} {b : Nat} {L : List (κ × Value)} (h : MapK enc w b L) {mt kt et : TypeId} (hu : P.underlying mt = some (.map kt et)) (t : TypeId) : (Builtin.len_ #[mt] t #[.map (some b)]).run P w = .ok (.int .i64 L.length) w := by
  obtain ⟨es, c, h1, h2, _⟩ := h
  have hl : es.size = L.length := by have := congrArg List.length h2; simpa using this
  simp [Builtin.len_, run_underlying hu, zget_map h1, hl, goInt, Result.andThen]
theorem zero_bool_run (w : World) : (zeroValue 4).run Try.prog w = .ok (.bool false) w := by kernel_rfl
def smallV (b1 b2 b3 b4 : Nat) : Value := .func (.func 97) #[] #[.pointer (some ⟨b1, 0, none⟩), .pointer (some ⟨b2, 0, none⟩), .pointer (some ⟨b3, 0, none⟩), .pointer (some ⟨b4, 0, none⟩)]
theorem SeenAt.lt {w : World} {sb : Nat} {S : List Nat} (h : SeenAt w sb S) : sb < w.heap.size := by obtain ⟨_, h1, _⟩ := h; exact h1.lt
theorem SeenAt.kept {w w' : World} {sb : Nat} {S : List Nat} (h : SeenAt w sb S) (hk : Kept w w') : SeenAt w' sb S := let ⟨L, h1, h2⟩ := h; ⟨L, h1.same (hk.block _ h1.lt), h2⟩
/-- Block sb alone changes. -/
structure OnlySb (g : Nat) (w w' : World) : Prop where
  os : w'.os = w.os
  tape : w'.tape = w.tape
  output : w'.output = w.output
  size : w.heap.size ≤ w'.heap.size
  block : ∀ k, k < w.heap.size → k ≠ g → w'.heap[k]? = w.heap[k]?
theorem OnlySb.refl (g : Nat) (w : World) : OnlySb g w w := ⟨rfl, rfl, rfl, Nat.le_refl _, fun _ _ _ => rfl⟩
theorem OnlySb.trans {g : Nat} {a b c : World} (h : OnlySb g a b) (k : OnlySb g b c) : OnlySb g a c :=
  ⟨k.os.trans h.os, k.tape.trans h.tape, k.output.trans h.output, Nat.le_trans h.size k.size, fun i hi hn => (k.block i (Nat.lt_of_lt_of_le hi h.size) hn).trans (h.block i hi hn)⟩
theorem OnlySb.kept {g : Nat} {a b : World} (h : Kept a b) : OnlySb g a b := ⟨h.os, h.tape, h.output, h.size, fun i hi _ => h.block i hi⟩
theorem OnlySb.grown {g : Nat} {a b : World} (h : a.grownBy b (some g)) : OnlySb g a b := ⟨h.os, h.tape, h.output, h.size, fun i hi hn => h.block i hi fun e => hn (by cases e; rfl)⟩
theorem OnlySb.cell {g : Nat} {w w' : World} (h : OnlySb g w w') {b i : Nat} {v : Value} (hne : b ≠ g) (hc : w.cell? ⟨b, i, none⟩ = some v) : w'.cell? ⟨b, i, none⟩ = some v :=
  (World.cell?_of_block (w := w) (h.block b (World.block_lt_of_cell? w _ hc) hne)).trans hc
theorem OnlySb.toKept {g : Nat} {w0 w w' : World} (h : OnlySb g w w') (hk : Kept w0 w) (hg : w0.heap.size ≤ g) : Kept w0 w' :=
  ⟨h.os.trans hk.os, h.tape.trans hk.tape, h.output.trans hk.output, Nat.le_trans hk.size h.size, fun k hlt => (h.block k (Nat.lt_of_lt_of_le hlt hk.size) (by omega)).trans (hk.block k hlt)⟩
structure SmallC (t : ZT) (b1 b2 b3 b4 sb most : Nat) (w0 W : World) (S : List Nat) : Prop where
  kept : Kept w0 W
  new : w0.heap.size ≤ sb
  seen : SeenAt W sb S
  bx1 : W.cell? ⟨b1, 0, none⟩ = some (.map (some sb)) ∧ b1 ≠ sb
  bx2 : W.cell? ⟨b2, 0, none⟩ = some (.int .i64 most) ∧ b2 ≠ sb
  bx3 : W.cell? ⟨b3, 0, none⟩ = some (smallV b1 b2 b3 b4) ∧ b3 ≠ sb
  bx4 : W.cell? ⟨b4, 0, none⟩ = some t.val ∧ b4 ≠ sb
theorem SmallC.frm {t : ZT} {b1 b2 b3 b4 sb most : Nat} {w0 W w' : World} {S S' : List Nat} (h : SmallC t b1 b2 b3 b4 sb most w0 W S) (ho : OnlySb sb W w') (hs : SeenAt w' sb S') : SmallC t b1 b2 b3 b4 sb most w0 w' S' :=
  ⟨ho.toKept h.kept h.new, h.new, hs, ⟨ho.cell h.bx1.2 h.bx1.1, h.bx1.2⟩, ⟨ho.cell h.bx2.2 h.bx2.1, h.bx2.2⟩, ⟨ho.cell h.bx3.2 h.bx3.1, h.bx3.2⟩, ⟨ho.cell h.bx4.2 h.bx4.1, h.bx4.2⟩⟩
/-- What is reachable: closed, each once. -/
structure ZReach (N : List ZNode) (R : List Nat) : Prop where
  rng : ∀ r ∈ R, 2 ≤ r ∧ r ≤ 1 + N.length
  kids : ∀ i (h : i < N.length), i + 2 ∈ R → (N[i].lo < 2 ∨ N[i].lo ∈ R) ∧ (N[i].hi < 2 ∨ N[i].hi ∈ R)
theorem ZSt.reach {N : List ZNode} {s : List Nat × List ZNode} (h : ZSt N s) : ZReach N s.1 := by
  refine ⟨h.rng, fun i hi hm => ?_⟩
  obtain ⟨j, hj, e⟩ := List.getElem_of_mem hm
  obtain ⟨n, h1, _, h3, h4⟩ := h.node j hj (by rw [h.len]; exact hj)
  rw [e, show i + 2 - 2 = i by omega, List.getElem?_eq_getElem hi] at h1
  cases h1
  exact ⟨h3, h4⟩
set_option maxRecDepth 100000 in
set_option maxHeartbeats 8000000 in
theorem zsmall1_any (t : ZT) (N : List ZNode) (R : List Nat) (b1 b2 b3 b4 sb most : Nat) (w0 : World) (h0 : TblAt w0 t N) (hR : ZReach N R) (hmost : R.length ≤ most) :
    ∀ r, (r < 2 ∨ r ∈ R) → ∀ (W : World) (S : List Nat), SmallC t b1 b2 b3 b4 sb most w0 W S → S.Nodup → (∀ x ∈ S, x ∈ R) →
    Calls Try.prog 97 #[.int .i64 r, .pointer (some ⟨b1, 0, none⟩), .pointer (some ⟨b2, 0, none⟩), .pointer (some ⟨b3, 0, none⟩), .pointer (some ⟨b4, 0, none⟩)] W fun e w' => e = .returned (.tuple #[]) ∧ ∃ S', SeenAt w' sb S' ∧ S'.Nodup ∧ (∀ x ∈ S', x ∈ R) ∧ OnlySb sb W w' := by
  intro r
  induction r using Nat.strongRecOn with
  | ind r ih =>
    intro hr W S hC hn hs
    have hg := h0.good
    obtain ⟨L, hm, hL1, hL2⟩ := id hC.seen
    have d1 := hC.bx1.1
    have d2 := hC.bx2.1
    have d3 := hC.bx3.1
    have d4 := hC.bx4.1
    unfold ZT.val at d4
    unfold smallV at d3
    have eg : ∀ args w, (callFunc 97 args).run Try.prog w = .ok (.enter 97 args) w := enters_of Try.func97 (by kernel_rfl) rfl
    have hlen : S.length ≤ most := Nat.le_trans (zlen_le hn hs) hmost
    have hlk := run_lookupK ikKey Try.underlying111 hm r (.bool false) (zero_bool_run _) false
    rw [if_neg (by simp), seen_find hL1 hL2 r] at hlk
    have hln := run_len_K (P := Try.prog) hm Try.underlying111 3
    have hLS : L.length = S.length := by rw [← hL1, List.length_map]
    rw [hLS] at hln
    by_cases h2 : r < 2
    · have h2i : ((r : Int) < 2) := by omega
      have HE : Hid (SeenAt W sb S ∧ S.Nodup ∧ ∀ x ∈ S, x ∈ R) := Lib.hid ⟨hC.seen, hn, hs⟩
      clear hlk hln hm hL1 hL2 hC hn hs ih hr hR hmost h0 hg hlen hLS
      go_enter Try.func97, Try.ntmps97
      go_wp2_with fail
      refine bodyPost_ret (v := .tuple #[]) (by simp [results, Try.results97, go_sem]) rfl ?_
      exact ⟨rfl, S, HE.out.1, HE.out.2.1, HE.out.2.2, OnlySb.refl _ _⟩
    · have h2i : ¬ ((r : Int) < 2) := by omega
      by_cases hin : r ∈ S
      · rw [decide_eq_true hin] at hlk
        simp only [ikV] at hlk
        have HE : Hid (SeenAt W sb S ∧ S.Nodup ∧ ∀ x ∈ S, x ∈ R) := Lib.hid ⟨hC.seen, hn, hs⟩
        clear hln hm hL1 hL2 hC hn hs ih hr hR hmost h0 hg hlen hLS hin
        go_enter Try.func97, Try.ntmps97
        go_wp2_with fail
        refine bodyPost_ret (v := .tuple #[]) (by simp [results, Try.results97, go_sem]) rfl ?_
        exact ⟨rfl, S, HE.out.1, HE.out.2.1, HE.out.2.2, OnlySb.refl _ _⟩
      · rw [decide_eq_false hin] at hlk
        simp only [ikV] at hlk
        have hrR : r ∈ R := hr.resolve_left h2
        obtain ⟨i, hi⟩ : ∃ i, r = i + 2 := ⟨r - 2, by omega⟩
        have hiN : i < N.length := by have := (hR.rng r hrR).2; omega
        have hlo := hg.lo i hiN
        have hhi := hg.hi i hiN
        obtain ⟨kd1, kd2⟩ := hR.kids i hiN (by rw [← hi]; exact hrR)
        have hnl := h0.len
        obtain ⟨ad, cp, c0, _, _, ⟨hc, hcn⟩, hxx⟩ := h0.cells
        obtain ⟨bb, oo, rfl, y0, y1, y2⟩ := hxx i hiN
        obtain ⟨nn, hnn⟩ : ∃ n, n = N.length := ⟨_, rfl⟩
        have hi' : i < nn := by omega
        rw [← hnn] at c0 hc hnl
        obtain ⟨l0, hl0'⟩ : ∃ l, l = N[i].lo := ⟨_, rfl⟩
        obtain ⟨l1, hl1'⟩ : ∃ l, l = N[i].hi := ⟨_, rfl⟩
        rw [← hl0'] at y1 kd1 hlo
        rw [← hl1'] at y2 kd2 hhi
        have hn2 : (S ++ [r]).Nodup := List.nodup_append.2 ⟨hn, by simp, fun a ha b hb => by rw [List.mem_singleton] at hb; rw [hb]; exact fun e => hin (e ▸ ha)⟩
        have hs2 : ∀ x ∈ S ++ [r], x ∈ R := fun x hx => by
          rcases List.mem_append.1 hx with h | h
          · exact hs x h
          · rw [List.mem_singleton] at h; rw [h]; exact hrR
        obtain ⟨sl, hsl⟩ : ∃ sl, sl = S.length := ⟨_, rfl⟩
        rw [← hsl] at hln hlen
        have hlm : ¬ ((most : Int) < (sl : Int)) := by omega
        have HC1 : Hid (∀ W' S', SmallC t b1 b2 b3 b4 sb most w0 W' S' → S'.Nodup → (∀ x ∈ S', x ∈ R) → Calls Try.prog 97 #[.int .i64 l0, .pointer (some ⟨b1, 0, none⟩), .pointer (some ⟨b2, 0, none⟩), .pointer (some ⟨b3, 0, none⟩), .pointer (some ⟨b4, 0, none⟩)] W' fun e w' => e = .returned (.tuple #[]) ∧ ∃ S', SeenAt w' sb S' ∧ S'.Nodup ∧ (∀ x ∈ S', x ∈ R) ∧ OnlySb sb W' w') := Lib.hid fun W' S' hC' h8 h9 => ih l0 (by omega) kd1 W' S' hC' h8 h9
        have HC2 : Hid (∀ W' S', SmallC t b1 b2 b3 b4 sb most w0 W' S' → S'.Nodup → (∀ x ∈ S', x ∈ R) → Calls Try.prog 97 #[.int .i64 l1, .pointer (some ⟨b1, 0, none⟩), .pointer (some ⟨b2, 0, none⟩), .pointer (some ⟨b3, 0, none⟩), .pointer (some ⟨b4, 0, none⟩)] W' fun e w' => e = .returned (.tuple #[]) ∧ ∃ S', SeenAt w' sb S' ∧ S'.Nodup ∧ (∀ x ∈ S', x ∈ R) ∧ OnlySb sb W' w') := Lib.hid fun W' S' hC' h8 h9 => ih l1 (by omega) kd2 W' S' hC' h8 h9
        have ei : (r : Int) - 2 = (i : Int) := by omega
        have ew : IntKind.i64.wrap (i : Int) = (i : Int) := by rw [IntKind.wrap_i64]; omega
        have hri : (0 : Int) ≤ (i : Int) := by omega
        have hnew : findK r L = none := findK_none.2 (by rw [hL1]; exact hin)
        have HMM := Lib.hid hm
        have HL : Hid (L.map Prod.fst = S ∧ (∀ p ∈ L, p.2 = .bool true) ∧ findK r L = none) := Lib.hid ⟨hL1, hL2, hnew⟩
        have HC := Lib.hid hC
        have HN2 := Lib.hid hn2
        have HS2 := Lib.hid hs2
        have HY := Lib.hid (show w0.cell? ⟨t.tb, 0, none⟩ = some (.slice (some ⟨bb, oo, none⟩) nn cp) ∧ w0.cell? ⟨bb, oo + i * 3 + 1, none⟩ = some (.int .i64 l0) ∧ w0.cell? ⟨bb, oo + i * 3 + 2, none⟩ = some (.int .i64 l1) from ⟨c0, y1, y2⟩)
        clear hnew hi hiN hlo hhi kd1 kd2 hxx hnn hl0' hl1' hn2 hs2 hsl hlen hLS hL1 hL2 hm hC hn hs ih hr hR hmost h0 hg h2 hin hrR c0 y0 y1 y2 d3 d4
        go_enter Try.func97, Try.ntmps97
        go_upto_region 1 with fail
        clear hlk hln
        go_wp2_with (at_mapUpdate; refine store_K ikKey Try.underlying111 rfl _ _ _ rfl sb L rfl HMM.out r rfl (.bool true) rfl ?_; intro w4 hm4 hg4)
        have hs4 : SeenAt w4 sb (S ++ [r]) := by
          refine ⟨_, hm4, ?_, fun p hp => ?_⟩
          · rw [putK_new HL.out.2.2, List.map_append, HL.out.1]; rfl
          · rw [putK_new HL.out.2.2] at hp
            rcases List.mem_append.1 hp with h | h
            · exact HL.out.2.1 p h
            · rw [List.mem_singleton] at h; rw [h]
        have hC4 := HC.out.frm (OnlySb.grown hg4) hs4
        have HO4 := Lib.hid (OnlySb.grown hg4)
        have HC4 : Hid (SmallC t b1 b2 b3 b4 sb most w0 w4.drew (S ++ [r])) := Lib.hid (hC4.frm (OnlySb.kept (Kept.refl w4).drew) (hs4.kept (Kept.refl w4).drew))
        have k4 := hC4.kept.drew
        have A0 := k4.cell HY.out.1
        have A1 := k4.cell HY.out.2.1
        have A2 := HC4.out.bx3.1
        have A3 := HC4.out.bx4.1
        unfold smallV at A2
        unfold ZT.val at A3
        clear hm4 hg4 hs4 hC4 k4 d1 d2
        go_upto_region 2 with fail
        go_region_with (go_at_call 97; (with_reducible refine (HC1.out _ _ HC4.out HN2.out HS2.out).mono ?_); rintro e w5 ⟨rfl, S5, h51, h52, h53, h54⟩; have HS5 := Lib.hid h51; have HN5 := Lib.hid h52; have HR5 := Lib.hid h53; have HO5 := Lib.hid ((HO4.out.trans (OnlySb.kept (Kept.refl w4).drew)).trans h54); have HC5 := Lib.hid (HC4.out.frm h54 h51); clear h51 h52 h53 h54)
        all_goals
          have HC6 : Hid (SmallC t b1 b2 b3 b4 sb most w0 w5.drew S5) := Lib.hid (HC5.out.frm (OnlySb.kept (Kept.refl w5).drew) (HS5.out.kept (Kept.refl w5).drew))
          have k5 := HC5.out.kept.drew
          have B0 := k5.cell HY.out.1
          have B1 := k5.cell HY.out.2.2
          have B2 := HC6.out.bx3.1
          have B3 := HC6.out.bx4.1
          unfold smallV at B2
          unfold ZT.val at B3
          clear k5 A0 A1 A2 A3
          go_upto_region 3 with fail
          go_region_with (go_at_call 97; (with_reducible refine (HC2.out _ _ HC6.out HN5.out HR5.out).mono ?_); rintro e w7 ⟨rfl, S7, h71, h72, h73, h74⟩; have HS7 := Lib.hid h71; have HN7 := Lib.hid h72; have HR7 := Lib.hid h73; have HO7 := Lib.hid ((HO5.out.trans (OnlySb.kept (Kept.refl w5).drew)).trans h74); clear h71 h72 h73 h74)
          all_goals
            go_wp2_with fail
            go_end0
            exact ⟨rfl, S7, HS7.out, HN7.out, HR7.out, HO7.out⟩
end Go.Proofs.Ytiplibgnfcdlkaa

/-
  Walks: Small of decision.Sets, whole; result of zero.
-/
namespace Go.Proofs.Ytiplibgnfcdlkaa
open Go.RowKit

theorem zwalk_reach {N : List ZNode} (hg : ZGood N) {r : Nat} (hr : r ≤ 1 + N.length) : ZReach N (zwalk N r r ([], [])).1 ∧ (r < 2 ∨ r ∈ (zwalk N r r ([], [])).1) := by
  have h := zwalk_ok hg r hr r (Nat.le_refl _) ([], []) (ZSt.start N)
  exact ⟨h.st.reach, h.done⟩
set_option maxRecDepth 100000 in
set_option maxHeartbeats 4000000 in
theorem zsmall_any (t : ZT) (N : List ZNode) (r most : Nat) (W : World) (h0 : TblAt W t N) (hr : r ≤ 1 + N.length) (hm : (zwalk N r r ([], [])).1.length ≤ most) :
    Calls Try.prog 79 #[t.val, .int .i64 r, .int .i64 most] W fun e w' => e = .returned (.bool true) ∧ Kept W w' := by
  have eg : ∀ args w, (callFunc 97 args).run Try.prog w = .ok (.enter 97 args) w := enters_of Try.func97 (by kernel_rfl) rfl
  have hmm := @run_makeMap Try.prog
  obtain ⟨hR, hd⟩ := zwalk_reach h0.good hr
  obtain ⟨R, hRe⟩ : ∃ R, R = (zwalk N r r ([], [])).1 := ⟨_, rfl⟩
  rw [← hRe] at hR hd hm
  obtain ⟨g0, hg0⟩ : ∃ g, g = W.heap.size := ⟨_, rfl⟩
  obtain ⟨w9, hw9⟩ : ∃ w9, w9 = ((((W.alloc (.cells #[.pointer (some ⟨t.tb, 0, none⟩)] 64)).alloc (.cells #[.int .i64 most] 3)).alloc (.map #[] 0)).alloc (.cells #[.map (some (W.heap.size + 1 + 1))] 111)).alloc (.cells #[smallV (W.heap.size + 1 + 1 + 1) (W.heap.size + 1) (W.heap.size + 1 + 1 + 1 + 1) W.heap.size] 80) := ⟨_, rfl⟩
  have hk9 : Kept W w9 := by rw [hw9]; exact (((((Kept.refl _).alloc _).alloc _).alloc _).alloc _).alloc _
  obtain ⟨wa, hwa⟩ : ∃ wa, wa = (W.alloc (.cells #[.pointer (some ⟨t.tb, 0, none⟩)] 64)).alloc (.cells #[.int .i64 most] 3) := ⟨_, rfl⟩
  have hba := boxes2 hwa
  have hsa : wa.heap.size = W.heap.size + 1 + 1 := by rw [hwa]; simp
  obtain ⟨wb, hwb⟩ : ∃ wb, wb = wa.alloc (.map #[] 0) := ⟨_, rfl⟩
  have hmb : MapK ikV wb (W.heap.size + 1 + 1) [] := by rw [hwb, ← hsa]; exact MapK.made ikV wa
  have hkb : Kept wa wb := by rw [hwb]; exact (Kept.refl _).alloc _
  have hsb : wb.heap.size = W.heap.size + 1 + 1 + 1 := by rw [hwb]; simp [hsa]
  have hw9b : w9 = (wb.alloc (.cells #[.map (some (W.heap.size + 1 + 1))] 111)).alloc (.cells #[smallV (W.heap.size + 1 + 1 + 1) (W.heap.size + 1) (W.heap.size + 1 + 1 + 1 + 1) W.heap.size] 80) := by rw [hw9, hwb, hwa]
  have hb9 := boxes2 hw9b
  rw [hsb] at hb9
  have hkb9 : Kept wb w9 := by rw [hw9b]; exact ((Kept.refl _).alloc _).alloc _
  have hka9 := hkb.trans hkb9
  have hC : SmallC t (W.heap.size + 1 + 1 + 1) (W.heap.size + 1) (W.heap.size + 1 + 1 + 1 + 1) W.heap.size (W.heap.size + 1 + 1) most W w9 [] :=
    ⟨hk9, by omega, ⟨[], hmb.same (hkb9.block _ hmb.lt), rfl, by simp⟩, ⟨hb9.1, by omega⟩, ⟨hka9.cell hba.2, by omega⟩, ⟨hb9.2, by omega⟩, ⟨hka9.cell hba.1, by omega⟩⟩
  have HCALL := Lib.hid (zsmall1_any t N R (W.heap.size + 1 + 1 + 1) (W.heap.size + 1) (W.heap.size + 1 + 1 + 1 + 1) W.heap.size (W.heap.size + 1 + 1) most W h0 hR hm r hd w9 [] hC (by simp) (by simp))
  have c9 := hb9.2
  unfold smallV at c9 hw9
  have HW9 := Lib.hid hw9
  have HC := Lib.hid hC
  have HM := Lib.hid hm
  clear hw9 hw9b hb9 hkb9 hka9 hC hmb hkb hsb hwb hba hsa hwa hk9 hRe hR hd hm hr h0 hg0 wa wb
  unfold ZT.val
  go_enter Try.func79, Try.ntmps79
  go_upto_region 4 with fail
  rw [← HW9.out]
  go_wp2_with fail
  refine HCALL.out.mono ?_
  rintro e w5 ⟨rfl, S, h1, h2, h3, h4⟩
  have hC5 := HC.out.frm h4 h1
  have d1 := hC5.bx1.1
  have d2 := hC5.bx2.1
  obtain ⟨L, hmL, hL1, hL2⟩ := h1
  have hln := run_len_K (P := Try.prog) hmL Try.underlying111 3
  have hLS : L.length = S.length := by rw [← hL1, List.length_map]
  rw [hLS] at hln
  have hlen : S.length ≤ most := Nat.le_trans (zlen_le h2 h3) HM.out
  obtain ⟨sl, hsl⟩ : ∃ sl, sl = S.length := ⟨_, rfl⟩
  rw [← hsl] at hln hlen
  have hlm : ((sl : Int) ≤ (most : Int)) := by omega
  have HK := Lib.hid hC5.kept
  clear hC5 hmL hL1 hL2 hLS hsl h2 h3 h4 hlen c9
  go_wp2_with fail
  go_ret
  exact ⟨rfl, HK.out⟩
theorem DnsAt.past {w w' : World} {v : Value} {L : List INode} (h : DnsAt w v L) {g : Nat} {x y : Value} {e : TypeId} {fr : Nat × Nat} (hg : w.heap[g]? = some (.cells #[x, y] e fr)) (ho : ∀ k, k < w.heap.size → k ≠ g → w'.heap[k]? = w.heap[k]?) : DnsAt w' v L := by
  obtain ⟨a, c, h1, h2, h3, h4⟩ := h
  refine ⟨a, c, h1, h2, h3, fun i hi => ?_⟩
  obtain ⟨b, o, e1, x1, y1, z1⟩ := h4 i hi
  have hne : b ≠ g := fun e2 => by
    rw [e2] at z1
    simp [World.cell?, hg] at z1
  have hb := ho b (World.block_lt_of_cell? w _ x1) hne
  exact ⟨b, o, e1, (World.cell?_of_block (w := w) hb).trans x1, (World.cell?_of_block (w := w) hb).trans y1, (World.cell?_of_block (w := w) hb).trans z1⟩
theorem two_stores (w : World) (g : Nat) (u v : Value) : ∀ k, k < w.heap.size → k ≠ g → ((w.setCell ⟨g, 0, none⟩ u).setCell ⟨g, 1, none⟩ v).heap[k]? = w.heap[k]? := fun k _ hk =>
  (Below.heap_setCell _ ⟨g, 1, none⟩ v k hk).trans (Below.heap_setCell w ⟨g, 0, none⟩ u k hk)
/-- A diagram that is returned: that of a family. -/
def ZRes (w' : World) (e : Ending) (F : Nat → Bool) : Prop := ∃ v, e = .returned (.tuple #[v, .nilIface]) ∧ ZeroAt w' v ((zadd 24 [] F).1.map zi) (zadd 24 [] F).2
set_option maxRecDepth 100000 in
set_option maxHeartbeats 4000000 in
theorem zresult_any (t : ZT) (N : List ZNode) (r : Nat) (W : World) (h0 : TblAt W t N) (hr : r ≤ 1 + N.length) (hm : (zwalk N r r ([], [])).1.length ≤ 4096) :
    Calls Try.prog 46 #[t.val, .int .i64 r] W fun e w' => ZRes w' e (zm N r) ∧ Kept W w' := by
  have HSM : Hid (∀ W', Kept W W' → Calls Try.prog 79 #[t.val, .int .i64 r, .int .i64 4096] W' fun e w' => e = .returned (.bool true) ∧ Kept W' w') := Lib.hid fun W' hk => zsmall_any t N r 4096 W' (h0.kept hk) hr hm
  have HEX : Hid (∀ W', Kept W W' → Calls Try.prog 47 #[t.val, .int .i64 r] W' fun e w' => (∃ v, e = .returned v ∧ ZeroAt w' v ((zadd 24 [] (zm N r)).1.map zi) (zadd 24 [] (zm N r)).2) ∧ Kept W' w') := Lib.hid fun W' hk => zexport_any t N r W' (h0.kept hk) hr
  obtain ⟨F, hF⟩ : ∃ F, F = zm N r := ⟨_, rfl⟩
  rw [← hF] at HEX ⊢
  obtain ⟨Z, hZ⟩ : ∃ Z, Z = zadd 24 [] F := ⟨_, rfl⟩
  unfold ZRes
  rw [← hZ] at HEX ⊢
  obtain ⟨w1, hw1⟩ : ∃ w1, w1 = W.alloc (.cells #[.slice none 0 0, .int .i64 0] 24) := ⟨_, rfl⟩
  have hk1 : Kept W w1 := by rw [hw1]; exact (Kept.refl _).alloc _
  have hx1 : RowAt w1 W.heap.size 24 [.slice none 0 0, .int .i64 0] := by rw [hw1]; exact RowAt.made W #[.slice none 0 0, .int .i64 0] 24
  have HW1 := Lib.hid hw1
  have HK1 := Lib.hid hk1
  have HX1 := Lib.hid hx1
  have HFX : Hid (w1.heap[W.heap.size]? = some (.cells #[.slice none 0 0, .int .i64 0] 24 (0, 0))) := Lib.hid (by rw [hw1]; exact heap_alloc_new W _)
  have HLT : Hid (W.heap.size < w1.heap.size) := Lib.hid hx1.lt
  clear hZ hF hm hr h0 hw1 hk1 hx1
  go_enter Try.func46, Try.ntmps46
  go_upto_region 1 with fail
  rw [← HW1.out]
  go_wp2_with fail
  refine (HSM.out _ HK1.out).mono ?_
  rintro e w2 ⟨rfl, hk2⟩
  have HK2 := Lib.hid (HK1.out.trans hk2)
  have HK12 := Lib.hid hk2
  have HX2 := Lib.hid (HX1.out.kept hk2)
  clear hk2
  go_wp2_with fail
  refine (HEX.out _ HK2.out).mono ?_
  rintro e w3 ⟨⟨v, rfl, s, rfl, hd⟩, hk3⟩
  obtain ⟨a, c, rfl⟩ : ∃ a c, s = .slice a (Z.1.map zi).length c := by obtain ⟨a, c, e, _⟩ := hd; exact ⟨a, c, e⟩
  have HK3 := Lib.hid (HK2.out.trans hk3)
  have HFX3 := Lib.hid (((HK12.out.trans hk3).block _ HLT.out).trans HFX.out)
  have hx3 := HX2.out.kept hk3
  have HX3 := Lib.hid hx3
  have c0 := hx3.cell (i := 0) (by simp)
  have c1 := hx3.cell (i := 1) (by simp)
  simp only [List.getElem_cons_succ, List.getElem_cons_zero] at c0 c1
  have f0 := hx3.free 0
  have f1 := hx3.free 1
  have HD := Lib.hid hd
  obtain ⟨zn, hzn⟩ : ∃ n, n = (Z.1.map zi).length := ⟨_, rfl⟩
  rw [← hzn] at HD ⊢
  clear hk3 hx3 hd hzn
  go_wp2_with fail
  have hF2 := (HX3.out.store 0 (.slice a zn c)).store 1 (.int .i64 (Z.2 : Int))
  have y0 := hF2.cell (i := 0) (by simp)
  have y1 := hF2.cell (i := 1) (by simp)
  simp only [List.set_cons_zero, List.set_cons_succ, List.getElem_cons_succ, List.getElem_cons_zero] at y0 y1
  have hdf := HD.out.past HFX3.out (two_stores w3 W.heap.size (.slice a zn c) (.int .i64 (Z.2 : Int)))
  refine bodyPost_ret (v := .tuple #[.agg #[.slice a zn c, .int .i64 (Z.2 : Nat)], .nilIface]) ?_ rfl ⟨⟨_, rfl, _, rfl, hdf⟩, ?_⟩
  · simp [results, Try.results46, go_sem, y0, y1]
  · exact (HK3.out.store (Nat.le_refl _) _ _).store (Nat.le_refl _) _ _
end Go.Proofs.Ytiplibgnfcdlkaa
