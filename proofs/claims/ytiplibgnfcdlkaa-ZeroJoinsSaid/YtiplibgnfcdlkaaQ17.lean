import Derived.Test.YtiplibgnfcdlkaaQ16
/-
  Walk: Import of decision.Sets: the reference of a diagram that lies in memory.
-/
namespace Go.Proofs.Ytiplibgnfcdlkaa
open Go.RowKit

/-- A node as it may come in. -/
structure INode where
  v : Int
  lo : Int
  hi : Int
  deriving DecidableEq, Inhabited
def inC (n : INode) : List Value := [.int .i64 n.v, .int .i64 n.lo, .int .i64 n.hi]
def zi (n : ZNode) : INode := ⟨n.v, n.lo, n.hi⟩
/-- A slice of nodes that can be read. -/
def DnsAt (w : World) (v : Value) (L : List INode) : Prop :=
  ∃ (a : Option Addr) (c : Nat), v = .slice a L.length c ∧ (L.length ≤ c ∧ (a = none → c = 0)) ∧ L.length ≤ 140737488355328 ∧
    ∀ i (_ : i < L.length), ∃ b o, a = some ⟨b, o, none⟩ ∧ w.cell? ⟨b, o + i * 3, none⟩ = some (.int .i64 L[i].v) ∧ w.cell? ⟨b, o + i * 3 + 1, none⟩ = some (.int .i64 L[i].lo) ∧ w.cell? ⟨b, o + i * 3 + 2, none⟩ = some (.int .i64 L[i].hi)
theorem DnsAt.kept {w w' : World} {v : Value} {L : List INode} (h : DnsAt w v L) (hk : Kept w w') : DnsAt w' v L := by
  obtain ⟨a, c, h1, h2, h3, h4⟩ := h
  exact ⟨a, c, h1, h2, h3, fun i hi => let ⟨b, o, e, x, y, z⟩ := h4 i hi; ⟨b, o, e, hk.cell x, hk.cell y, hk.cell z⟩⟩
theorem DnsAt.nil (w : World) : DnsAt w (.slice none 0 0) [] := ⟨none, 0, rfl, ⟨by simp, fun _ => rfl⟩, by simp, fun i h => by simp at h⟩
/-- A diagram that can be read. -/
def ZeroAt (w : World) (v : Value) (L : List INode) (root : Int) : Prop := ∃ s, v = .agg #[s, .int .i64 root] ∧ DnsAt w s L
theorem ZeroAt.kept {w w' : World} {v : Value} {L : List INode} {root : Int} (h : ZeroAt w v L root) (hk : Kept w w') : ZeroAt w' v L root := let ⟨s, h1, h2⟩ := h; ⟨s, h1, h2.kept hk⟩
theorem TblAt.same {w w' : World} {t : ZT} {N : List ZNode} (h : TblAt w t N) (hk : ∀ k, t.own w k → w'.heap[k]? = w.heap[k]?) : TblAt w' t N := by
  obtain ⟨v, U, M, h1, h2, ⟨h3, h4⟩, ⟨h5, h6⟩, h7⟩ := h
  have c0 := h1.cell (i := 0) (by simp)
  simp only [List.getElem_cons_zero] at c0
  exact ⟨v, U, M, h1.same (hk _ (.inl rfl)), own_block h2 fun k e => hk k (.inr (.inr (.inr ⟨v, c0, e⟩))), ⟨h3.same (hk _ (.inr (.inl rfl))), h4⟩, ⟨h5.same (hk _ (.inr (.inr (.inl rfl)))), h6⟩, h7⟩
theorem TblAt.store {w : World} {t : ZT} {N : List ZNode} {g : Nat} (h : TblAt w t N) (hg : ¬ t.own w g) (i : Nat) (u : Value) : TblAt (w.setCell ⟨g, i, none⟩ u) t N :=
  h.same fun k hk => Below.heap_setCell w ⟨g, i, none⟩ u k fun e => hg (by have e : k = g := e; rw [← e]; exact hk)
theorem notown_store {w : World} {t : ZT} {g : Nat} (hg : ¬ t.own w g) {k : Nat} (hk : ¬ t.own w k) (i : Nat) (u : Value) : ¬ t.own (w.setCell ⟨g, i, none⟩ u) k := fun h =>
  hk (ZT.own_same (Below.heap_setCell w ⟨g, i, none⟩ u t.tb fun e => hg (.inl e.symm)) h)
theorem TFrm.store {t : ZT} {W w : World} {g : Nat} (h : TFrm t W w) (hg : ¬ t.own w g) (hW : W.heap.size ≤ g) (i : Nat) (u : Value) : TFrm t W (w.setCell ⟨g, i, none⟩ u) :=
  ⟨h.os, h.tape, h.output, Nat.le_trans h.size (by simp [World.setCell]), fun k hk hn => (Below.heap_setCell w ⟨g, i, none⟩ u k (by show k ≠ g; omega)).trans (h.block k hk hn),
    fun k hk => h.own k (ZT.own_same (Below.heap_setCell w ⟨g, i, none⟩ u t.tb fun e => hg (.inl e.symm)) hk)⟩
theorem notown_frm {w w' : World} {t : ZT} {g : Nat} (hg : ¬ t.own w g) (hl : g < w.heap.size) (h : TFrm t w w') : ¬ t.own w' g := fun ho => by
  rcases h.own g ho with h1 | h1
  · exact hg h1
  · omega
/-- k nodes of a diagram are in the table. -/
def ImpOk (M : List ZNode) (k : Nat) (N N' : List ZNode) (Rf : List Nat) : Prop :=
  Rf.length = M.length + 2 ∧ (∃ E, N' = N ++ E) ∧ ZGood N' ∧ N'.length ≤ N.length + k ∧ ∀ j, j < 2 + k → Rf.getD j 0 ≤ 1 + N'.length ∧ zev M j ≤ zev N' (Rf.getD j 0) ∧ ∀ s, zm N' (Rf.getD j 0) s = zm M j s
theorem ImpOk.start {M N : List ZNode} (hg : ZGood N) : ImpOk M 0 N N ((List.replicate (M.length + 2) 0).set 1 1) := by
  refine ⟨by simp, ⟨[], by simp⟩, hg, Nat.le_refl _, fun j hj => ?_⟩
  rcases (show j = 0 ∨ j = 1 by omega) with rfl | rfl
  · have e : ((List.replicate (M.length + 2) 0).set 1 1).getD 0 0 = 0 := by simp [List.replicate_succ]
    rw [e]
    exact ⟨Nat.zero_le _, Nat.le_refl _, fun s => by rw [zm_zero, zm_zero]⟩
  · have e : ((List.replicate (M.length + 2) 0).set 1 1).getD 1 0 = 1 := by simp [List.replicate_succ]
    rw [e]
    exact ⟨by omega, Nat.le_refl _, fun s => by rw [zm_one, zm_one]⟩
theorem ImpOk.step {M N N' : List ZNode} {k : Nat} {Rf : List Nat} (hM : ZGood M) (h : ImpOk M k N N' Rf) (hk : k < M.length) {n : ZNode} (hn : n = ⟨M[k].v, Rf.getD M[k].lo 0, Rf.getD M[k].hi 0⟩) :
    ZGood (zput N' n).1 ∧ ImpOk M (k + 1) N (zput N' n).1 (Rf.set (2 + k) (zput N' n).2) := by
  obtain ⟨h1, ⟨E, h2⟩, h3, h4, h5⟩ := h
  have hlo := hM.lo k hk
  have hhi := hM.hi k hk
  have hv := hM.ev k hk
  obtain ⟨l1, l2, l3⟩ := h5 M[k].lo (by omega)
  obtain ⟨g1, g2, g3⟩ := h5 M[k].hi (by omega)
  have hp := zput_ok h3 n (by rw [hn]; exact hv) (by rw [hn]; exact ⟨l1, Nat.lt_of_lt_of_le hlo.2 l2⟩) (by rw [hn]; exact ⟨g1, fun _ => Nat.lt_of_lt_of_le hhi.2.2 g2⟩)
  have hle := hp.le
  refine ⟨hp.good, by simpa using h1, ?_, hp.good, by have := zput_len N' n; omega, fun j hj => ?_⟩
  · obtain ⟨E2, h6⟩ := hp.ext
    exact ⟨E ++ E2, by rw [h6, h2, List.append_assoc]⟩
  · by_cases hjk : j = 2 + k
    · subst hjk
      have e : (Rf.set (2 + k) (zput N' n).2).getD (2 + k) 0 = (zput N' n).2 := by
        rw [List.getD_eq_getElem?_getD, List.getElem?_set_self (by omega)]; rfl
      rw [e, Nat.add_comm 2 k, zev_node hk]
      refine ⟨hp.ref, by have := hp.ev; rw [hn] at this ⊢; exact this, fun s => ?_⟩
      rw [hp.mem, zm_node hM hk, hn]
      simp only [l3, g3]
    · obtain ⟨j1, j2, j3⟩ := h5 j (by omega)
      have e : (Rf.set (2 + k) (zput N' n).2).getD j 0 = Rf.getD j 0 := by
        rw [List.getD_eq_getElem?_getD, List.getElem?_set_ne (fun e => hjk e.symm), List.getD_eq_getElem?_getD]
      rw [e]
      exact ⟨by omega, by rw [hp.zev j1]; exact j2, fun s => by rw [hp.zm h3 j1]; exact j3 s⟩
theorem ImpOk.done {M N N' : List ZNode} {Rf : List Nat} (h : ImpOk M M.length N N' Rf) {root : Nat} (hr : root ≤ 1 + M.length) : ZPut N 0 (zm M root) N' (Rf.getD root 0) ∧ N'.length ≤ N.length + M.length := by
  obtain ⟨h1, h2, h3, h4, h5⟩ := h
  obtain ⟨a, _, b⟩ := h5 root (by omega)
  exact ⟨⟨h2, h3, a, Nat.zero_le _, b⟩, h4⟩
theorem getD_get {l : List Nat} {i : Nat} (h : i < l.length) : l.getD i 0 = l[i] := by rw [List.getD_eq_getElem?_getD, List.getElem?_eq_getElem h]; rfl
def intsV (l : List Nat) : List Value := l.map fun (x : Nat) => Value.int .i64 (x : Int)
theorem RowAt.intAt {w : World} {g : Nat} {l : List Nat} (h : RowAt w g 3 (intsV l)) {i : Nat} (hi : i < l.length) : w.cell? ⟨g, i, none⟩ = some (.int .i64 ((l.getD i 0 : Nat) : Int)) := by
  have := h.cell (i := i) (by unfold intsV; simpa using hi)
  rw [getD_get hi]
  simpa [intsV] using this
theorem RowAt.intSet {w : World} {g : Nat} {l : List Nat} (h : RowAt w g 3 (intsV l)) (i x : Nat) : RowAt (w.setCell ⟨g, i, none⟩ (.int .i64 (x : Int))) g 3 (intsV (l.set i x)) := by
  have := h.store i (.int .i64 (x : Int))
  unfold intsV at *
  rw [List.map_set]
  exact this
theorem row_past {w : World} {g : Nat} {l : List Nat} (h : RowAt w g 3 (intsV l)) {i j x y : Nat} (hij : i ≠ j) (hc : w.cell? ⟨g, i, none⟩ = some (.int .i64 (x : Int))) : (w.setCell ⟨g, j, none⟩ (.int .i64 (y : Int))).cell? ⟨g, i, none⟩ = some (.int .i64 (x : Int)) := by
  obtain ⟨cur, h1, _⟩ := h
  simp only [World.cell?, h1] at hc
  have h2 : (w.setCell ⟨g, j, none⟩ (.int .i64 (y : Int))).heap[g]? = some (.cells (cur.setIfInBounds j (.int .i64 (y : Int))) 3 (0, 0)) := by simp [World.setCell, Array.getElem?_modify, h1]
  simp only [World.cell?, h2]
  rw [Array.getElem?_setIfInBounds_ne (fun e => hij e.symm)]
  exact hc
set_option maxRecDepth 100000 in
set_option maxHeartbeats 8000000 in
theorem zimport_any (t : ZT) (N M : List ZNode) (root : Nat) (zv : Value) (w0 W : World) (h : TblAt W t N) (hk0 : Kept w0 W) (hown : ∀ k, t.own W k → w0.heap.size ≤ k) (hz : ZeroAt w0 zv (M.map zi) root) (hM : ZGood M) (hroot : root ≤ 1 + M.length) (hm : M.length ≤ 4096) (hl : N.length + 4096 ≤ 4398046511104) :
    Calls Try.prog 48 #[t.val, zv] W (GenPost t W fun N' r => ZPut N 0 (zm M root) N' r ∧ N'.length ≤ N.length + M.length) := by
  obtain ⟨s, rfl, ad, cp, rfl, ⟨hc, hcn⟩, _, hx⟩ := hz
  have hg := h.good
  obtain ⟨n, hn⟩ : ∃ n, n = M.length := ⟨_, rfl⟩
  rw [List.length_map, ← hn] at hc ⊢
  obtain ⟨m, hmn⟩ : ∃ m, m = n + 2 := ⟨_, rfl⟩
  have em : 2 + (n : Int) = (m : Int) := by omega
  obtain ⟨R, hR⟩ : ∃ R : List ZNode → Nat → Prop, R = fun N' r => ZPut N 0 (zm M root) N' r ∧ N'.length ≤ N.length + n := ⟨_, rfl⟩
  rw [← hR]
  have hX : ∀ i (_ : i < M.length), ∃ b o, ad = some ⟨b, o, none⟩ ∧ w0.cell? ⟨b, o + i * 3, none⟩ = some (.int .i64 (M[i].v : Int)) ∧ w0.cell? ⟨b, o + i * 3 + 1, none⟩ = some (.int .i64 (M[i].lo : Int)) ∧ w0.cell? ⟨b, o + i * 3 + 2, none⟩ = some (.int .i64 (M[i].hi : Int)) := fun i hi => by
    obtain ⟨b, o, e, x, y, z⟩ := hx i (by rw [List.length_map]; exact hi)
    rw [List.getElem_map] at x y z
    exact ⟨b, o, e, x, y, z⟩
  obtain ⟨w1, hw1⟩ : ∃ w1, w1 = W.alloc (.cells #[.slice ad n cp, .int .i64 root] 24) := ⟨_, rfl⟩
  have hk1 : Kept W w1 := by rw [hw1]; exact (Kept.refl _).alloc _
  have hz1 : RowAt w1 W.heap.size 24 [.slice ad n cp, .int .i64 root] := by rw [hw1]; exact RowAt.made W #[.slice ad n cp, .int .i64 root] 24
  have z0 := hz1.cell (i := 0) (by simp)
  have z1 := hz1.cell (i := 1) (by simp)
  simp only [List.getElem_cons_succ, List.getElem_cons_zero] at z0 z1
  have HW1 := Lib.hid hw1
  have HK1 := Lib.hid hk1
  have HT := Lib.hid h
  have HT1 := Lib.hid (h.kept hk1)
  have HK0 := Lib.hid hk0
  have HOWN := Lib.hid hown
  have HX := Lib.hid hX
  have HM := Lib.hid hM
  have HN := Lib.hid hn
  have HMN := Lib.hid hmn
  have HGW : Hid (W.heap.size < w1.heap.size) := Lib.hid (by rw [hw1]; simp)
  have HS1 : Hid (W.heap.size < w1.heap.size) := Lib.hid (by rw [hw1]; simp)
  have HROOT := Lib.hid hroot
  have HLEN := Lib.hid hm
  have HLN := Lib.hid hl
  have HRR := Lib.hid hR
  have hnm : n ≤ 4096 := by omega
  have hmm : m ≤ 5000 := by omega
  have hm1 : 1 < m := by omega
  have hm1i : (1 : Int) < (m : Int) := by omega
  have hm0 : (0 : Int) ≤ (m : Int) := by omega
  have HG := Lib.hid hg
  have HB1 : Hid (Box t w1 W.heap.size 0 (.slice ad n cp) ∧ Box t w1 W.heap.size 1 (.int .i64 root)) := Lib.hid ⟨h.box hk1 (Nat.le_refl _) z0, h.box hk1 (Nat.le_refl _) z1⟩
  clear hR hX hx h hk0 hown hM hroot hm hl hg hn hmn hw1 hk1 hz1
  unfold ZT.val at *
  go_enter Try.func48, Try.ntmps48
  go_upto_region 1 with fail
  rw [← HW1.out]
  go_wp2_with (at_make; refine make_one 25 3 (.int .i64 0) 8 info_int Try.underlying25 rfl rfl _ _ rfl m rfl rfl (by omega) (by unfold maxLen; omega) ?_; intro w2 hr2 hk2; have y0 := hk2.cell z0; have y1 := hk2.cell z1; have f2 := hr2.free 1; have c2 := hr2.cell (i := 1) (by rw [List.length_replicate]; exact hm1))
  have HR2 : Hid (RowAt w2 w1.heap.size 3 (intsV (List.replicate (M.length + 2) 0))) := Lib.hid (by
    have e : intsV (List.replicate (M.length + 2) 0) = List.replicate m (Value.int .i64 0) := by unfold intsV; rw [List.map_replicate, HMN.out, HN.out]; rfl
    rw [e]; exact hr2)
  obtain ⟨w3, hw3⟩ : ∃ w3, w3 = w2.setCell ⟨w1.heap.size, 1, none⟩ (.int .i64 1) := ⟨_, rfl⟩
  have HR3 : Hid (RowAt w3 w1.heap.size 3 (intsV ((List.replicate (M.length + 2) 0).set 1 1))) := Lib.hid (by rw [hw3]; exact HR2.out.intSet 1 1)
  have hno2 : ¬ t.own w2 w1.heap.size := fun ho => by
    have := HT1.out.own_lt (ZT.own_same (hk2.block _ HT1.out.lt) ho)
    omega
  have HT3 : Hid (TblAt w3 t N) := Lib.hid (by rw [hw3]; exact (HT1.out.kept hk2).store hno2 _ _)
  have HF3 : Hid (TFrm t W w3) := Lib.hid (by rw [hw3]; exact (HT.out.frm (HK1.out.trans hk2)).store hno2 (by have := HS1.out; omega) _ _)
  have HNO3 : Hid (¬ t.own w3 w1.heap.size) := Lib.hid (by rw [hw3]; exact notown_store hno2 hno2 _ _)
  have HK3 : Hid (Kept w1 w3) := Lib.hid (by rw [hw3]; exact hk2.store (Nat.le_refl _) _ _)
  have HB3 : Hid (Box t w3 W.heap.size 0 (.slice ad n cp) ∧ Box t w3 W.heap.size 1 (.int .i64 root)) := Lib.hid ⟨HB1.out.1.frm (HT1.out.frm HK3.out), HB1.out.2.frm (HT1.out.frm HK3.out)⟩
  rw [← hw3]
  clear hw3 hno2 hr2 hk2 y0 y1 f2 c2 HR2 z0 z1
  go_loopg [18] n (fun kx s18 wr => ∃ (k : Nat) (N1 : List ZNode) (Rf : List Nat), s18 = .int .i64 k ∧ k ≤ n ∧ n - k ≤ kx ∧ Hid (TblAt wr t N1) ∧ Hid (ImpOk M k N N1 Rf) ∧ Hid (RowAt wr w1.heap.size 3 (intsV Rf)) ∧ Hid (TFrm t W wr) ∧ Hid (¬ t.own wr w1.heap.size) ∧ Hid (Box t wr W.heap.size 1 (.int .i64 root)))
  case atStart => exact ⟨0, N, _, rfl, Nat.zero_le _, by omega, HT3, Lib.hid (ImpOk.start HG.out), HR3, HF3, HNO3, Lib.hid HB3.out.2⟩
  case round =>
    obtain ⟨k, N1, Rf, rfl, hk, hkx, HTr, HIr, HRr, HFr, HNr, HBr⟩ := hrel
    obtain ⟨wi, rfl⟩ : ∃ wi : World, wi = wr := ⟨_, rfl⟩
    by_cases hlt : k < n
    · have hlti : (k : Int) < (n : Int) := by omega
      have hkM : k < M.length := by rw [← HN.out]; exact hlt
      obtain ⟨b, o, rfl, q0, q1, q2⟩ := HX.out k hkM
      have hk0i := HFr.out.toKept HK0.out HOWN.out
      obtain ⟨mv, hmv⟩ : ∃ x, x = M[k].v := ⟨_, rfl⟩
      obtain ⟨ml, hml⟩ : ∃ x, x = M[k].lo := ⟨_, rfl⟩
      obtain ⟨mh, hmh⟩ : ∃ x, x = M[k].hi := ⟨_, rfl⟩
      have p0 := hk0i.cell q0
      have p1 := hk0i.cell q1
      have p2 := hk0i.cell q2
      rw [← hmv] at p0
      rw [← hml] at p1
      rw [← hmh] at p2
      have hlo := (HM.out.lo k hkM).1
      have hhi := (HM.out.hi k hkM).1
      rw [← hml] at hlo
      rw [← hmh] at hhi
      have hrl : Rf.length = m := by rw [HMN.out, HN.out]; exact HIr.out.1
      obtain ⟨rl, hrlo⟩ : ∃ x, x = Rf.getD ml 0 := ⟨_, rfl⟩
      obtain ⟨rh, hrhi⟩ : ∃ x, x = Rf.getD mh 0 := ⟨_, rfl⟩
      obtain ⟨hgz, hst⟩ := HIr.out.step HM.out hkM (n := ⟨mv, rl, rh⟩) (by rw [hmv, hrlo, hrhi, hml, hmh])
      have hl1 := HIr.out.2.2.2.1
      have HMK : Hid (∀ W', TblAt W' t N1 → Calls Try.prog 78 #[.pointer (some ⟨t.tb, 0, none⟩), .int .i64 mv, .int .i64 rl, .int .i64 rh] W' fun e w' => e = .returned (.int .i64 (zput N1 ⟨mv, rl, rh⟩).2) ∧ TblAt w' t (zput N1 ⟨mv, rl, rh⟩).1 ∧ TFrm t W' w') := Lib.hid fun W' hT => zmake_any t N1 ⟨mv, rl, rh⟩ W' hT hgz (by have := HLN.out; have := HLEN.out; omega)
      obtain ⟨rr, hrr⟩ : ∃ x, x = (zput N1 ⟨mv, rl, rh⟩).2 := ⟨_, rfl⟩
      obtain ⟨N2, hN2⟩ : ∃ x, x = (zput N1 ⟨mv, rl, rh⟩).1 := ⟨_, rfl⟩
      rw [← hrr, ← hN2] at HMK hst
      have HST := Lib.hid hst
      obtain ⟨w4, hw4⟩ : ∃ w4, w4 = wi.alloc (.cells #[.int .i64 mv, .int .i64 ml, .int .i64 mh] 63) := ⟨_, rfl⟩
      have hk4 : Kept wi w4 := by rw [hw4]; exact (Kept.refl _).alloc _
      have hx4 : RowAt w4 wi.heap.size 63 [.int .i64 mv, .int .i64 ml, .int .i64 mh] := by rw [hw4]; exact RowAt.made wi #[.int .i64 mv, .int .i64 ml, .int .i64 mh] 63
      have hd4 : Kept w4 w4.drew := (Kept.refl _).drew
      have A0 := hd4.cell (hx4.cell (i := 0) (by simp))
      have A1 := hd4.cell (hx4.cell (i := 1) (by simp))
      have A2 := hd4.cell (hx4.cell (i := 2) (by simp))
      simp only [List.getElem_cons_succ, List.getElem_cons_zero] at A0 A1 A2
      have hrow4 := HRr.out.kept (hk4.trans hd4)
      have A3 := hrow4.intAt (i := ml) (by omega)
      have A4 := hrow4.intAt (i := mh) (by omega)
      rw [← hrlo] at A3
      rw [← hrhi] at A4
      obtain ⟨k2, hk2⟩ : ∃ x, x = 2 + k := ⟨_, rfl⟩
      rw [← hk2] at HST
      have ek2 : (2 : Int) + (k : Int) = (k2 : Int) := by omega
      have ek3 : IntKind.i64.wrap (k2 : Int) = (k2 : Int) := by rw [IntKind.wrap_i64]; omega
      have hk2m : (k2 : Int) < (m : Int) := by omega
      have hk20 : (0 : Int) ≤ (k2 : Int) := by omega
      have hmlm : (ml : Int) < (m : Int) := by omega
      have hmhm : (mh : Int) < (m : Int) := by omega
      have hml0 : (0 : Int) ≤ (ml : Int) := by omega
      have hmh0 : (0 : Int) ≤ (mh : Int) := by omega
      have HK2M : Hid (k2 < Rf.length) := Lib.hid (by omega)
      have HW4 := Lib.hid hw4
      have HT4 := Lib.hid (HTr.out.kept (hk4.trans hd4))
      have HF4 := Lib.hid (HTr.out.frm (hk4.trans hd4))
      have HROW4 := Lib.hid hrow4
      have HKD := Lib.hid (hk4.trans hd4)
      have HMLM : Hid (ml < Rf.length) := Lib.hid (by omega)
      have HMHM : Hid (mh < Rf.length) := Lib.hid (by omega)
      have HMLK : Hid (ml ≠ k2) := Lib.hid (by omega)
      have HMHK : Hid (mh ≠ k2) := Lib.hid (by omega)
      have HRLO := Lib.hid hrlo
      have HRHI := Lib.hid hrhi
      have HNE : Hid (wi.heap.size ≠ w1.heap.size) := Lib.hid (by have := HRr.out.lt; omega)
      clear hmv hml hmh hlo hhi hrl hrlo hrhi hgz hst hl1 hrr hN2 hw4 hk4 hx4 hd4 hrow4 q0 q1 q2 hk0i hk2 hkM HW1
      go_upto_region 6 with fail
      rw [← HW4.out]
      clear p0 p1 p2
      have HC0 : Hid ((fun W2 : World => W2.cell? ⟨wi.heap.size, 0, none⟩ = some (.int .i64 mv) ∧ W2.cell? ⟨wi.heap.size, 1, none⟩ = some (.int .i64 ml) ∧ W2.cell? ⟨wi.heap.size, 2, none⟩ = some (.int .i64 mh) ∧ W2.cell? ⟨w1.heap.size, ml, none⟩ = some (.int .i64 rl) ∧ W2.cell? ⟨w1.heap.size, mh, none⟩ = some (.int .i64 rh)) w4.drew) := Lib.hid ⟨A0, A1, A2, A3, A4⟩
      have HBN : Hid (Box t w4.drew wi.heap.size 0 (.int .i64 mv) ∧ Box t w4.drew wi.heap.size 1 (.int .i64 ml) ∧ Box t w4.drew wi.heap.size 2 (.int .i64 mh)) := Lib.hid ⟨HTr.out.box HKD.out (Nat.le_refl _) A0, HTr.out.box HKD.out (Nat.le_refl _) A1, HTr.out.box HKD.out (Nat.le_refl _) A2⟩
      go_region_held3 (fun W2 : World => W2.cell? ⟨wi.heap.size, 0, none⟩ = some (.int .i64 mv) ∧ W2.cell? ⟨wi.heap.size, 1, none⟩ = some (.int .i64 ml) ∧ W2.cell? ⟨wi.heap.size, 2, none⟩ = some (.int .i64 mh) ∧ W2.cell? ⟨w1.heap.size, ml, none⟩ = some (.int .i64 rl) ∧ W2.cell? ⟨w1.heap.size, mh, none⟩ = some (.int .i64 rh))
        (with_reducible first | exact HC6.out | exact HC5.out | exact HC0.out)
        (first
        | (go_at_call 78; (with_reducible refine (HMK.out _ HT4.out).mono ?_); rintro e w5 ⟨rfl, ht, hf⟩; have HT5 := Lib.hid ht; have HF5 := Lib.hid (HF4.out.trans hf); have hl9 := HRr.out.lt; have hrow5 := HROW4.out.same (hf.block _ (by have := HF4.out.size; omega) (notown_frm HNr.out hl9 HF4.out)); have hno5 := notown_frm HNr.out hl9 HF5.out; have st5 := hrow5.intAt HK2M.out; have sf5 := hrow5.free k2; have HROW5 := Lib.hid hrow5; have HNO5 := Lib.hid hno5; have m3 := hrow5.intAt (i := ml) HMLM.out; have m4 := hrow5.intAt (i := mh) HMHM.out; rw [← HRLO.out] at m3; rw [← HRHI.out] at m4; have HC5 : Hid ((fun W2 : World => W2.cell? ⟨wi.heap.size, 0, none⟩ = some (.int .i64 mv) ∧ W2.cell? ⟨wi.heap.size, 1, none⟩ = some (.int .i64 ml) ∧ W2.cell? ⟨wi.heap.size, 2, none⟩ = some (.int .i64 mh) ∧ W2.cell? ⟨w1.heap.size, ml, none⟩ = some (.int .i64 rl) ∧ W2.cell? ⟨w1.heap.size, mh, none⟩ = some (.int .i64 rh)) w5) := Lib.hid ⟨(HBN.out.1.frm hf).1, (HBN.out.2.1.frm hf).1, (HBN.out.2.2.frm hf).1, m3, m4⟩; have HC6 : Hid ((fun W2 : World => W2.cell? ⟨wi.heap.size, 0, none⟩ = some (.int .i64 mv) ∧ W2.cell? ⟨wi.heap.size, 1, none⟩ = some (.int .i64 ml) ∧ W2.cell? ⟨wi.heap.size, 2, none⟩ = some (.int .i64 mh) ∧ W2.cell? ⟨w1.heap.size, ml, none⟩ = some (.int .i64 rl) ∧ W2.cell? ⟨w1.heap.size, mh, none⟩ = some (.int .i64 rh)) (w5.setCell ⟨w1.heap.size, k2, none⟩ (.int .i64 rr))) := Lib.hid ⟨cell_other HC5.out.1 HNE.out _ _, cell_other HC5.out.2.1 HNE.out _ _, cell_other HC5.out.2.2.1 HNE.out _ _, row_past hrow5 HMLK.out m3, row_past hrow5 HMHK.out m4⟩; clear ht hf hrow5 hl9 hno5 m3 m4)
        | fail)
      all_goals
        obtain ⟨w6, hw6⟩ : ∃ w6, w6 = w5.setCell ⟨w1.heap.size, k2, none⟩ (.int .i64 rr) := ⟨_, rfl⟩
        have HR6 : Hid (RowAt w6 w1.heap.size 3 (intsV (Rf.set k2 rr))) := Lib.hid (by rw [hw6]; exact HROW5.out.intSet _ _)
        have HT6 : Hid (TblAt w6 t N2) := Lib.hid (by rw [hw6]; exact HT5.out.store HNO5.out _ _)
        have HF6 : Hid (TFrm t W w6) := Lib.hid (by rw [hw6]; exact (HFr.out.trans HF5.out).store HNO5.out (Nat.le_of_lt HGW.out) _ _)
        have HN6 : Hid (¬ t.own w6 w1.heap.size) := Lib.hid (by rw [hw6]; exact notown_store HNO5.out HNO5.out _ _)
        have HB6 : Hid (Box t w6 W.heap.size 1 (.int .i64 root)) := Lib.hid (by
          have hb := HBr.out.frm HF5.out
          rw [hw6]
          exact ⟨cell_other hb.1 (by have := HGW.out; show W.heap.size ≠ _; omega) _ _, notown_store HNO5.out hb.2 _ _⟩)
        rw [← hw6]
        clear hw6 st5 sf5
        go_wp2_with fail
        go_roundg (n - (k + 1))
        case measure => omega
        case rel => exact ⟨k + 1, N2, _, by go_num, by omega, Nat.le_refl _, HT6, HST, HR6, HF6, HN6, HB6⟩
    · have hlti : ¬ (k : Int) < (n : Int) := by omega
      have hke : k = M.length := by have := HN.out; omega
      obtain ⟨hp, hle⟩ := (show ImpOk M M.length N N1 Rf by have h := HIr.out; rw [hke] at h; exact h).done HROOT.out
      have hrm : root < Rf.length := by have := HIr.out.1; have := HROOT.out; omega
      have q1 := HBr.out.1
      have q2 := HRr.out.intAt hrm
      obtain ⟨rr, hrr⟩ : ∃ x, x = Rf.getD root 0 := ⟨_, rfl⟩
      rw [← hrr] at q2 hp
      have HE : Hid (R N1 rr) := Lib.hid (by rw [HRR.out]; exact ⟨hp, by have := HN.out; omega⟩)
      have hri : (root : Int) < (m : Int) := by have := HIr.out.1; have := HMN.out; have := HN.out; omega
      have hr0 : (0 : Int) ≤ (root : Int) := by omega
      clear hke hp hle hrm hrr
      go_wp2_with fail
      go_ret
      refine ⟨rr, N1, ?_, HE.out, HTr.out, HFr.out⟩
      rfl
end Go.Proofs.Ytiplibgnfcdlkaa
