import Derived.Test.YtiplibgnfcdlkaaQ22
import Derived.Test.YtiplibgnfcdlkaaQ21
import Derived.Test.YtiplibgnfcdlkaaQ23
/-
  Plain: families and their diagrams.
-/
namespace Go.Proofs.Ytiplibgnfcdlkaa

/-- The diagram of a family. -/
theorem zcan_ex (F : Nat → Bool) : ∃ z, z = zadd 24 [] F := ⟨_, rfl⟩
noncomputable def zcan (F : Nat → Bool) : List ZNode × Nat := Classical.choose (zcan_ex F)
theorem zcan_eq (F : Nat → Bool) : zcan F = zadd 24 [] F := Classical.choose_spec (zcan_ex F)
def zno : Nat → Bool := fun _ => false
theorem zgood_nil : ZGood [] := ⟨fun i h => by simp at h, fun i h => by simp at h, fun i h => by simp at h, fun i j h => by simp at h⟩
theorem zcan_put {F : Nat → Bool} (h : ZFrom 0 F) : ZPut [] 0 F (zcan F).1 (zcan F).2 := by
  rw [zcan_eq]
  exact zadd_put 24 (Nat.le_refl _) [] F zgood_nil h
theorem zcan_no : zcan zno = ([], 0) := (zcan_eq _).trans (zadd_none 24 [])
theorem zfrom_no (v : Nat) : ZFrom v zno := fun s h => by simp [zno] at h
/-- The sets of a family. -/
noncomputable def zls (F : Nat → Bool) : List Nat := zsets (zcan F).1 (zcan F).2
theorem zls_mem {F : Nat → Bool} (h : ZFrom 0 F) (s : Nat) : s ∈ zls F ↔ F s = true := by
  have hp := zcan_put h
  unfold zls
  rw [zsets_mem hp.good _ hp.ref, hp.mem]
theorem zls_nodup {F : Nat → Bool} (h : ZFrom 0 F) : (zls F).Nodup := zsets_nodup (zcan_put h).good _ (zcan_put h).ref
noncomputable def zcard (F : Nat → Bool) : Nat := (zls F).length
theorem zlen_eq {a b : List Nat} (ha : a.Nodup) (hb : b.Nodup) (h : ∀ s, s ∈ a ↔ s ∈ b) : a.length = b.length :=
  Nat.le_antisymm (zlen_le ha fun x hx => (h x).1 hx) (zlen_le hb fun x hx => (h x).2 hx)
theorem zct_card {N : List ZNode} (hg : ZGood N) {r : Nat} (hr : r ≤ 1 + N.length) {F : Nat → Bool} (hF : ZFrom 0 F) (h : ∀ s, zm N r s = F s) : zct N r = zcard F := by
  rw [← zsets_len hg r hr]
  exact zlen_eq (zsets_nodup hg r hr) (zls_nodup hF) fun s => by rw [zsets_mem hg r hr, zls_mem hF, h]
theorem zcard_list {F : Nat → Bool} (hF : ZFrom 0 F) {l : List Nat} (hn : l.Nodup) (h : ∀ s, s ∈ l ↔ F s = true) : l.length = zcard F :=
  zlen_eq hn (zls_nodup hF) fun s => by rw [h, zls_mem hF]
theorem zcard_le {F : Nat → Bool} (hF : ZFrom 0 F) {l : List Nat} (h : ∀ s, F s = true → s ∈ l) : zcard F ≤ l.length :=
  zlen_le (zls_nodup hF) fun x hx => h x ((zls_mem hF x).1 hx)
/-- A family in memory. -/
def ZDia (w : World) (v : Value) (F : Nat → Bool) : Prop := ZeroAt w v ((zcan F).1.map zi) (zcan F).2
theorem ZDia.kept {w w' : World} {v : Value} {F : Nat → Bool} (h : ZDia w v F) (hk : Kept w w') : ZDia w' v F := ZeroAt.kept h hk
theorem zdia_no (w : World) : ZDia w (.agg #[.slice none 0 0, .int .i64 0]) zno := by
  unfold ZDia
  rw [zcan_no]
  exact ⟨_, rfl, DnsAt.nil w⟩
theorem zi_map_inj : ∀ {a b : List ZNode}, a.map zi = b.map zi → a = b
  | [], [], _ => rfl
  | [], _ :: _, h => by simp at h
  | _ :: _, [], h => by simp at h
  | x :: a, y :: b, h => by
    rw [List.map_cons, List.map_cons, List.cons.injEq] at h
    obtain ⟨x1, x2, x3⟩ := x
    obtain ⟨y1, y2, y3⟩ := y
    have h1 := h.1
    simp [zi] at h1
    obtain ⟨e1, e2, e3⟩ := h1
    rw [zi_map_inj h.2, show x1 = y1 by omega, show x2 = y2 by omega, show x3 = y3 by omega]
theorem zcan_inj {F G : Nat → Bool} (hF : ZFrom 0 F) (hG : ZFrom 0 G) (h : zcan F = zcan G) : F = G := by
  funext s
  rw [← (zcan_put hF).mem, ← (zcan_put hG).mem, h]
theorem zdia_same {F G : Nat → Bool} (hF : ZFrom 0 F) (hG : ZFrom 0 G) : ((zcan F).1.map zi = (zcan G).1.map zi ∧ ((zcan F).2 : Int) = (zcan G).2) ↔ F = G := by
  constructor
  · rintro ⟨h1, h2⟩
    exact zcan_inj hF hG (Prod.ext (zi_map_inj h1) (by omega))
  · rintro rfl; exact ⟨rfl, rfl⟩
/-- A diagram without an error is that of a family. -/
theorem zchk_zero {L : List INode} {root : Int} (h : zchk L root = 0) : ∃ F, ZFrom 0 F ∧ L = (zcan F).1.map zi ∧ root = (zcan F).2 ∧ (zcan F).1.length ≤ 4096 := by
  unfold zchk at h
  by_cases h1 : 4096 < L.length
  · rw [if_pos h1] at h; omega
  rw [if_neg h1] at h
  by_cases h2 : inFst L L.length ≠ 0
  · rw [if_pos h2] at h; exact absurd h h2
  rw [if_neg h2] at h
  have h2' := Classical.not_not.1 h2
  by_cases h3 : root < 0 ∨ (L.length : Int) + 1 < root
  · rw [if_pos h3] at h; omega
  rw [if_neg h3] at h
  by_cases h4 : znum (L.map zo) root.toNat root.toNat [] = List.range' 2 L.length
  · obtain ⟨hg, hL⟩ := inFst_good h2'
    have hr : root.toNat ≤ 1 + (L.map zo).length := by rw [List.length_map]; omega
    have hz := (znum_same hg hr).1 (by rw [List.length_map]; exact h4)
    refine ⟨zm (L.map zo) root.toNat, zm_from hg hr (Nat.zero_le _), ?_, ?_, ?_⟩
    · rw [zcan_eq, hz]; exact hL
    · rw [zcan_eq, hz]; show root = ((root.toNat : Nat) : Int); omega
    · rw [zcan_eq, hz]; show (L.map zo).length ≤ 4096; rw [List.length_map]; omega
  · rw [if_neg h4] at h; omega
theorem inErr_good {N : List ZNode} (hg : ZGood N) {i : Nat} (hi : i < N.length) : inErr (N.map zi) i = 0 := by
  have hL : i < (N.map zi).length := by rw [List.length_map]; exact hi
  have hx : (N.map zi).getD i default = zi N[i] := by rw [getD_at hL, List.getElem_map]
  obtain ⟨a1, a2⟩ := hg.lo i hi
  obtain ⟨b1, b2, b3⟩ := hg.hi i hi
  have hv := hg.ev i hi
  have hget : ∀ x : Nat, x ≤ 1 + i → N[i].v < zev N x → 1 < (x : Int) → ¬ ((N.map zi).getD ((x : Int) - 2).toNat default).v ≤ (N[i].v : Int) := fun x hx1 hx2 hx3 => by
    have hk : x - 2 < N.length := by omega
    have e : ((x : Int) - 2).toNat = x - 2 := by omega
    rw [e, getD_at (by rw [List.length_map]; exact hk), List.getElem_map]
    have e2 : x = x - 2 + 2 := by omega
    rw [e2, zev_node hk] at hx2
    show ¬ ((N[x - 2].v : Nat) : Int) ≤ _
    omega
  unfold inErr
  simp only [hx]
  rw [if_neg, if_neg, if_neg, if_neg]
  · intro hm
    obtain ⟨j, hj, e⟩ := List.mem_take_iff_getElem.1 hm
    rw [List.length_map] at hj
    rw [List.getElem_map] at e
    have : [N[j]].map zi = [N[i]].map zi := by simp [e]
    have e3 := zi_map_inj this
    have := hg.one j i (by omega) hi (by simpa using e3)
    omega
  · rintro (⟨h1, h2⟩ | ⟨h1, h2⟩)
    · exact hget N[i].lo (by omega) a2 h1 h2
    · exact hget N[i].hi (by omega) b3 h1 h2
  · show ¬ ((N[i].hi : Nat) : Int) = 0
    omega
  · show ¬ (((N[i].v : Nat) : Int) < 0 ∨ 24 ≤ ((N[i].v : Nat) : Int) ∨ ((N[i].lo : Nat) : Int) < 0 ∨ (i : Int) + 1 < ((N[i].lo : Nat) : Int) ∨ ((N[i].hi : Nat) : Int) < 0 ∨ (i : Int) + 1 < ((N[i].hi : Nat) : Int))
    omega
theorem inFst_all {N : List ZNode} (hg : ZGood N) : ∀ n, n ≤ N.length → inFst (N.map zi) n = 0 := by
  intro n
  induction n with
  | zero => intro _; rfl
  | succ n ih =>
    intro hn
    rw [inFst, if_pos (ih (by omega)), inErr_good hg (by omega)]
theorem zo_zi (N : List ZNode) : (N.map zi).map zo = N := by
  rw [List.map_map]
  conv => rhs; rw [← List.map_id N]
  apply List.map_congr_left
  intro x _
  show zo (zi x) = x
  simp [zo, zi]
theorem zcan_len {F : Nat → Bool} (h : ZFrom 0 F) : (zcan F).1.length ≤ (24 - zev (zcan F).1 (zcan F).2) * zcard F := by
  have hp := zcan_put h
  have hw := zwalk_len hp.good (zcan F).2 hp.ref ([], []) rfl
  have ho := zwalk_ok hp.good (zcan F).2 hp.ref (zcan F).2 (Nat.le_refl _) ([], []) (ZSt.start _)
  have ha := ho.add 24 (Nat.le_refl _) (by omega)
  rw [show zm (zcan F).1 (zcan F).2 = F from funext hp.mem] at ha
  simp only at ha
  rw [← zcan_eq] at ha
  have h1 : (zcan F).1 = (zwalk (zcan F).1 (zcan F).2 (zcan F).2 ([], [])).2 := congrArg Prod.fst ha
  have h2 := ho.st.len
  rw [← h1] at h2
  rw [h2, ← zct_card hp.good hp.ref h hp.mem]
  simpa using hw
theorem zcan_len2 {F : Nat → Bool} (h : ZFrom 0 F) : (zcan F).1.length ≤ 24 * zcard F :=
  Nat.le_trans (zcan_len h) (Nat.mul_le_mul_right _ (by omega))
theorem zchk_dia {F : Nat → Bool} (h : ZFrom 0 F) (hl : (zcan F).1.length ≤ 4096) : zchk ((zcan F).1.map zi) (zcan F).2 = 0 := by
  have hp := zcan_put h
  unfold zchk
  rw [List.length_map, if_neg (by omega), if_neg (fun hn => hn (inFst_all hp.good _ (Nat.le_refl _))), if_neg (by have := hp.ref; omega), zo_zi, Int.toNat_natCast, if_pos]
  refine (znum_same hp.good hp.ref).2 ?_
  rw [show zm (zcan F).1 (zcan F).2 = F from funext hp.mem, ← zcan_eq]
theorem zsameD_any (u v : Value) (F G : Nat → Bool) (W : World) (hF : ZFrom 0 F) (hG : ZFrom 0 G) (hu : ZDia W u F) (hv : ZDia W v G) :
    Calls Try.prog 23 #[u, v] W fun e w' => (∃ b, e = .returned (.bool b) ∧ (b = true ↔ F = G)) ∧ Kept W w' := by
  refine (zsame_any u v _ _ _ _ W hu hv).mono ?_
  rintro e w' ⟨rfl, hk⟩
  refine ⟨⟨_, rfl, ?_⟩, hk⟩
  rw [decide_eq_true_iff]
  exact zdia_same hF hG
/-- What an operation returns. -/
def ZOut (w : World) (e : Ending) (c : Nat) (F : Nat → Bool) : Prop := ∃ v, e = .returned (.tuple #[v, errV c]) ∧ ZDia w v (if c = 0 then F else zno)
end Go.Proofs.Ytiplibgnfcdlkaa

/-
  Walk: zero.open.
-/
namespace Go.Proofs.Ytiplibgnfcdlkaa
open Go.RowKit

/-- References of families. -/
def RefsOk (N : List ZNode) (Ff : Nat → Nat → Bool) (rs : List Nat) : Prop := ∀ i (h : i < rs.length), rs[i] ≤ 1 + N.length ∧ zm N rs[i] = Ff i
theorem RefsOk.step {N N' : List ZNode} {rs : List Nat} {Ff : Nat → Nat → Bool} {r k v : Nat} {F : Nat → Bool} (h : RefsOk N Ff rs) (hg : ZGood N) (hp : ZPut N v F N' r) (hk : rs.length = k) (e : F = Ff k) : RefsOk N' Ff (rs ++ [r]) := fun i hi => by
  rw [List.length_append, List.length_singleton] at hi
  by_cases h1 : i < rs.length
  · rw [List.getElem_append_left h1]
    obtain ⟨h2, h3⟩ := h i h1
    exact ⟨Nat.le_trans h2 (by have := hp.le; omega), by rw [← h3]; funext s; exact hp.zm hg h2 s⟩
  · rw [List.getElem_append_right (by omega)]
    have : i = k := by omega
    subst this
    simp only [show i - rs.length = 0 by omega, List.getElem_cons_zero]
    exact ⟨hp.ref, by rw [← e]; funext s; exact hp.mem s⟩
/-- An open table, with the references of some families. -/
structure OpenAt (w : World) (t : ZT) (N : List ZNode) (gr n : Nat) (Ff : Nat → Nat → Bool) : Prop where
  tbl : TblAt w t N
  len : N.length ≤ 4096 * n
  cell : ∀ i, i < n → ∃ r : Nat, w.cell? ⟨gr, i, none⟩ = some (.int .i64 (r : Nat)) ∧ r ≤ 1 + N.length ∧ zm N r = Ff i
  off : ¬ t.own w gr
theorem own_cells {w : World} {B g n cp : Nat} {rs : List Nat} (h : w.ownsRow B 3 1 (.slice (some ⟨g, 0, none⟩) n cp) n ((natI rs).map (.int .i64))) {i : Nat} (hi : i < rs.length) : w.cell? ⟨g, i, none⟩ = some (.int .i64 ((rs[i] : Nat) : Int)) := by
  obtain ⟨h1, h2⟩ := h
  rcases h2 with ⟨e, _⟩ | ⟨g', cap, cur, e, _, h3, _, _, _, h4⟩
  · cases e
  · cases e
    rw [List.length_map, natI_len] at h1
    have e1 : (cur.toList.take (n * 1))[i]? = ((natI rs).map (Value.int .i64))[i]? := by rw [h4]
    rw [List.getElem?_take_of_lt (by omega)] at e1
    simp only [World.cell?, h3]
    simpa [natI, hi] using e1
set_option maxRecDepth 100000 in
set_option maxHeartbeats 4000000 in
theorem zopen_any (g o n m cv c : Nat) (Ff : Nat → Nat → Bool) (W : World)
    (h : ∀ i, i < n → ∃ s r, W.cell? ⟨g, o + i * 2, none⟩ = some s ∧ W.cell? ⟨g, o + i * 2 + 1, none⟩ = some (.int .i64 r) ∧ (i < m → ZDia W (.agg #[s, .int .i64 r]) (Ff i)) ∧ (i = m → ∃ L, ZeroAt W (.agg #[s, .int .i64 r]) L r ∧ zchk L r = c))
    (hF : ∀ i, i < m → ZFrom 0 (Ff i) ∧ (zcan (Ff i)).1.length ≤ 4096) (hmn : m ≤ n) (hn2 : n ≤ 2) (hc : m < n → c ≠ 0) (hcv : n ≤ cv) (hn0 : 0 < n) :
    Calls Try.prog 53 #[.slice (some ⟨g, o, none⟩) n cv] W fun e w' => Kept W w' ∧ ((m < n ∧ e = .returned (.tuple #[.pointer none, .slice none 0 0, errV c])) ∨
      (m = n ∧ ∃ t N gr cr, e = .returned (.tuple #[t.val, .slice (some ⟨gr, 0, none⟩) n cr, .nilIface]) ∧ n ≤ cr ∧ OpenAt w' t N gr n Ff ∧ ∀ k, t.own w' k → W.heap.size ≤ k)) := by
  obtain ⟨i0, hi0, hz0, hz1, hz2⟩ := info_parts info_int
  have HX := Lib.hid h
  have HF := Lib.hid hF
  have HC := Lib.hid hc
  have I0 := Lib.hid hi0
  have I1 := Lib.hid hz0
  have I2 := Lib.hid hz1
  have I3 := Lib.hid hz2
  clear h hF hc hi0 hz0 hz1 hz2
  go_enter Try.func53, Try.ntmps53
  go_wp2_with fail
  refine (znew_any _).mono ?_
  rintro e w1 ⟨t, rfl, ht1, hk1, ho1⟩
  have HT1 := Lib.hid ht1
  have HK1 := Lib.hid hk1
  have HO1 := Lib.hid ho1
  clear ht1 hk1 ho1
  go_wp2_with fail
  go_loopg [6, 13] n (fun kx s6 s13 wr => ∃ (k : Nat) (N : List ZNode) (rs : List Nat) (a : Option Addr) (cp : Nat), s6 = .slice a k cp ∧ s13 = .int .i64 k ∧ k ≤ m ∧ n - k ≤ kx ∧ Hid (TblAt wr t N) ∧ Hid (rs.length = k) ∧ Hid (wr.ownsRow W.heap.size 3 1 (.slice a k cp) k ((natI rs).map (.int .i64))) ∧ Hid (RefsOk N Ff rs) ∧ Hid (∀ g, (Value.slice a k cp).ownBlock = some g → ¬ t.own wr g) ∧ Hid (Kept W wr) ∧ Hid (∀ b, t.own wr b → W.heap.size ≤ b) ∧ Hid (N.length ≤ 4096 * k))
  case atStart => exact ⟨0, [], [], none, 0, rfl, rfl, Nat.zero_le _, by omega, HT1, Lib.hid rfl, Lib.hid (World.ownsRow_nil _ _ _ _), Lib.hid (fun i hi => by simp at hi), Lib.hid (fun g e => by cases e), HK1, HO1, Lib.hid (by simp)⟩
  case round =>
    obtain ⟨k, N, rs, a, cp, rfl, rfl, hk, hkx, HT, HR, HO, HRf, HNO, HKr, HOW, HNL⟩ := hrel
    obtain ⟨wi, rfl⟩ : ∃ wi : World, wi = wr := ⟨_, rfl⟩
    by_cases hlt : k < n
    · have hlti : (k : Int) < (n : Int) := by omega
      have hk0 : (0 : Int) ≤ (k : Int) := by omega
      obtain ⟨s, r, p0, p1, hgood, hbad⟩ := HX.out k hlt
      have q0 := HKr.out.cell p0
      have q1 := HKr.out.cell p1
      obtain ⟨sa, sl, sc, rfl⟩ : ∃ sa sl sc, s = .slice sa sl sc := by
        by_cases e : k = m
        · obtain ⟨L, ⟨s', e1, hd⟩, _⟩ := hbad e
          cases e1
          obtain ⟨a, c, e2⟩ := hd.shape
          exact ⟨_, _, _, e2⟩
        · obtain ⟨s', e1, hd⟩ := hgood (by omega)
          cases e1
          obtain ⟨a, c, e2⟩ := hd.shape
          exact ⟨_, _, _, e2⟩
      have HGOOD := Lib.hid hgood
      have HBAD := Lib.hid hbad
      obtain ⟨w2, hw2⟩ : ∃ w2, w2 = wi.alloc (.cells #[.slice sa sl sc, .int .i64 r] 24) := ⟨_, rfl⟩
      have hk2 : Kept wi w2 := by rw [hw2]; exact (Kept.refl _).alloc _
      have hx2 : RowAt w2 wi.heap.size 24 [.slice sa sl sc, .int .i64 r] := by rw [hw2]; exact RowAt.made wi #[.slice sa sl sc, .int .i64 r] 24
      have z0 := hx2.cell (i := 0) (by simp)
      have z1 := hx2.cell (i := 1) (by simp)
      simp only [List.getElem_cons_succ, List.getElem_cons_zero] at z0 z1
      have HK2 := Lib.hid (HKr.out.trans hk2)
      have HK12 := Lib.hid hk2
      have Z0 := Lib.hid z0
      have Z1 := Lib.hid z1
      have HW2 := Lib.hid hw2
      clear hgood hbad p0 p1 hw2 hk2 hx2
      go_upto_region 6 with fail
      rw [← HW2.out]
      by_cases hkm : k = m
      · have HMN : Hid (m < n) := Lib.hid (by omega)
        have hcn := HC.out HMN.out
        have HCE : Hid (Calls Try.prog 14 #[.agg #[.slice sa sl sc, .int .i64 r]] w2 fun e w' => e = .returned (.iface 56 (.int .i64 (c : Nat))) ∧ Kept w2 w') := Lib.hid (by
          obtain ⟨L, hL, he⟩ := HBAD.out hkm
          have := zcheck_any _ L r w2 (hL.kept HK2.out)
          rw [he, errV_pos hcn] at this
          exact this)
        have HER := Lib.hid (errV_pos hcn)
        clear hcn hkm
        go_wp2_with fail
        refine HCE.out.mono ?_
        rintro e w3 ⟨rfl, hk3⟩
        have HK3 := Lib.hid (HK2.out.trans hk3)
        clear hk3
        go_wp2_with fail
        refine bodyPost_ret (v := .tuple #[.pointer none, .slice none 0 0, .iface 56 (.int .i64 (c : Nat))]) (by simp [results, Try.results53, go_sem]) rfl ?_
        exact ⟨HK3.out, .inl ⟨HMN.out, by rw [HER.out]⟩⟩
      · have HKM : Hid (k < m) := Lib.hid (by omega)
        have HCE : Hid (Calls Try.prog 14 #[.agg #[.slice sa sl sc, .int .i64 r]] w2 fun e w' => e = .returned .nilIface ∧ Kept w2 w') := Lib.hid (by
          obtain ⟨hf, hl⟩ := HF.out k HKM.out
          have hD := (HGOOD.out HKM.out).kept HK2.out
          obtain ⟨s', e, hd⟩ := hD
          cases e
          have := zcheck_any (.agg #[.slice sa sl sc, .int .i64 ((zcan (Ff k)).2 : Nat)]) ((zcan (Ff k)).1.map zi) ((zcan (Ff k)).2 : Nat) w2 ⟨.slice sa sl sc, rfl, hd⟩
          rw [zchk_dia hf hl, errV_zero] at this
          exact this)
        clear hkm
        go_wp2_with fail
        refine HCE.out.mono ?_
        rintro e w3 ⟨rfl, hk3⟩
        have HK3 := Lib.hid (HK2.out.trans hk3)
        have HK13 := Lib.hid (HK12.out.trans hk3)
        have y0 := hk3.cell Z0.out
        have y1 := hk3.cell Z1.out
        have HT3 := Lib.hid (HT.out.kept HK13.out)
        have HOW3 : Hid (∀ b, t.own w3 b → W.heap.size ≤ b) := Lib.hid fun b hb => HOW.out b (ZT.own_same (HK13.out.block _ HT.out.lt) hb)
        have HIM : Hid (Calls Try.prog 48 #[t.val, .agg #[.slice sa sl sc, .int .i64 r]] w3 (GenPost t w3 fun N' r => ZPut N 0 (Ff k) N' r ∧ N'.length ≤ N.length + 4096)) := Lib.hid (by
          obtain ⟨hf, hl⟩ := HF.out k HKM.out
          obtain ⟨s', e, hd⟩ := HGOOD.out HKM.out
          cases e
          have hp := zcan_put hf
          have := zimport_any t N (zcan (Ff k)).1 (zcan (Ff k)).2 _ W w3 HT3.out HK3.out HOW3.out ⟨_, rfl, hd⟩ hp.good hp.ref hl (by have := HNL.out; omega)
          refine this.mono ?_
          rintro e w' ⟨r', N', rfl, ⟨h1, h2⟩, h3, h4⟩
          exact ⟨r', N', rfl, ⟨⟨h1.ext, h1.good, h1.ref, h1.ev, fun x => by rw [h1.mem, hp.mem]⟩, by omega⟩, h3, h4⟩)
        clear hk3
        go_wp2_with fail
        refine HIM.out.mono ?_
        rintro e w4 ⟨r', N', rfl, ⟨hp, hl⟩, ht, hf⟩
        have hk4 := hf.toKept HK3.out HOW3.out
        have ho4 := hf.above HK3.out.size HOW3.out
        have hown4 := own_block (own_kept HO.out HK13.out) (fun b hb => hf.block b (by obtain ⟨cur, e⟩ := own_lt (own_kept HO.out HK13.out) hb; exact (Array.getElem?_eq_some_iff.1 e).1) (fun ho => HNO.out b hb (ZT.own_same (HK13.out.block _ HT.out.lt) ho)))
        have hno4 : ∀ b, (Value.slice a k cp).ownBlock = some b → ¬ t.own w4 b := fun b hb => notown_frm (fun ho => HNO.out b hb (ZT.own_same (HK13.out.block _ HT.out.lt) ho)) (by obtain ⟨cur, e⟩ := own_lt (own_kept HO.out HK13.out) hb; exact (Array.getElem?_eq_some_iff.1 e).1) hf
        have HP4 := Lib.hid hp
        have HL4 := Lib.hid hl
        have HT4 := Lib.hid ht
        have HK4 := Lib.hid hk4
        have HO4 := Lib.hid ho4
        have HW4 := Lib.hid hown4
        have HN4 := Lib.hid hno4
        have HSZ4 := Lib.hid hk4.size
        obtain ⟨w5, hw5⟩ : ∃ w5, w5 = w4.alloc (.cells #[.int .i64 (r' : Nat)] 3) := ⟨_, rfl⟩
        have hk5 : Kept w4 w5 := by rw [hw5]; exact (Kept.refl _).alloc _
        have HW5 := Lib.hid hw5
        have HK5 := Lib.hid hk5
        have HOW5 := Lib.hid (own_kept hown4 hk5)
        have HNW5 : Hid (∀ j u, [Value.int .i64 (r' : Nat)][j]? = some u → w5.cell? ((⟨w4.heap.size, 0, none⟩ : Addr).add j) = some u) := Lib.hid (by rw [hw5]; exact World.news_of_block (cs := #[.int .i64 (r' : Nat)]) (t := 3) (fr := (0, 0)) (heap_alloc_new w4 _))
        have HS5 : Hid (w5.heap.size = w4.heap.size + 1) := Lib.hid (by rw [hw5]; simp)
        clear hp hl ht hf hk4 ho4 hown4 hno4 hw5 hk5 y0 y1
        have hk2 : k < 3 := by omega
        go_wp2_with (rw [← HW5.out]; at_builtin; (refine wpList_append_lies _ rfl _ _ 25 rfl W.heap.size 3 i0 _ 1 8 Try.underlying25 I0.out I1.out I2.out I3.out rfl (by omega) (.slice a k cp) k _ rfl HOW5.out ⟨w4.heap.size, 0, none⟩ 1 1 [.int .i64 (r' : Nat)] rfl rfl HNW5.out (by simp [Value.oneCell']) (by omega) (by unfold maxLen; omega) (by omega) (by have := HSZ4.out; have := HS5.out; omega) (w4.heap.size + 1) HS5.out ?_); intro gg cap w7 hown7 hgrow hat hlt7; have HOW7 := Lib.hid hown7; have HGR := Lib.hid hgrow; have HAT := Lib.hid hat; clear hown7 hgrow hat hlt7)
        have ht5 := HT4.out.kept HK5.out
        have hb5 : w5.heap[t.tb]? = w4.heap[t.tb]? := HK5.out.block _ HT4.out.lt
        have hne : ∀ b, t.own w5 b → some b ≠ (Value.slice a k cp).ownBlock := fun b hb e => HN4.out b e.symm (ZT.own_same hb5 hb)
        have hb7 : ∀ b, t.own w5 b → w7.heap[b]? = w5.heap[b]? := fun b hb => HGR.out.block b (ht5.own_lt hb) (hne b hb)
        have hown7 : ∀ b, t.own w7 b → t.own w4 b := fun b hb => ZT.own_same hb5 (ZT.own_same (hb7 _ (.inl rfl)) hb)
        have hk7 : Kept W w7 := (HK4.out.trans HK5.out).app (grown_below HGR.out HOW5.out (by have := HSZ4.out; have := HS5.out; omega))
        have HT7 := Lib.hid (ht5.same hb7)
        have HK7 := Lib.hid hk7
        have HO7 : Hid (∀ b, t.own w7 b → W.heap.size ≤ b) := Lib.hid fun b hb => HO4.out b (hown7 b hb)
        have HN7 : Hid (∀ b, (Value.slice (some ⟨gg, 0, none⟩) (k + 1) cap).ownBlock = some b → ¬ t.own w7 b) := Lib.hid fun b hb ho => by
          obtain rfl : gg = b := by simpa [Value.ownBlock] using hb
          rcases HAT.out with e | e
          · exact HN4.out gg e (hown7 gg ho)
          · have := HT4.out.own_lt (hown7 gg ho)
            omega
        have HOW8 : Hid (w7.ownsRow W.heap.size 3 1 (.slice (some ⟨gg, 0, none⟩) (k + 1) cap) (k + 1) ((natI (rs ++ [r'])).map (.int .i64))) := Lib.hid (by
          have e : (natI (rs ++ [r'])).map (Value.int .i64) = (natI rs).map (Value.int .i64) ++ [.int .i64 (r' : Int)] := by unfold natI; rw [List.map_append, List.map_append]; rfl
          rw [e]; exact HOW7.out)
        have HRF8 : Hid (RefsOk N' Ff (rs ++ [r'])) := Lib.hid (HRf.out.step HT.out.good HP4.out HR.out rfl)
        clear ht5 hb5 hne hb7 hown7 hk7
        go_roundg (n - (k + 1))
        case measure => omega
        case rel => exact ⟨k + 1, N', rs ++ [r'], some ⟨gg, 0, none⟩, cap, rfl, by go_num, by have := HKM.out; omega, Nat.le_refl _, HT7, Lib.hid (by rw [List.length_append, HR.out]; rfl), HOW8, HRF8, HN7, HK7, HO7, Lib.hid (by have := HL4.out; have := HNL.out; omega)⟩
    · have hlti : ¬ (k : Int) < (n : Int) := by omega
      obtain rfl : k = n := by omega
      obtain ⟨gr, rfl, hcr⟩ : ∃ gr, a = some ⟨gr, 0, none⟩ ∧ k ≤ cp := by
        rcases HO.out.2 with ⟨_, e⟩ | ⟨gr, cap, cur, e, _, _, h4, _⟩
        · omega
        · cases e; exact ⟨gr, rfl, h4⟩
      have HEND : Hid (OpenAt wi t N gr k Ff) := Lib.hid ⟨HT.out, HNL.out, fun i hi => ⟨rs[i]'(by rw [HR.out]; exact hi), own_cells HO.out _, HRf.out i _⟩, HNO.out gr rfl⟩
      go_wp2_with fail
      refine bodyPost_ret (v := .tuple #[t.val, .slice (some ⟨gr, 0, none⟩) k cp, .nilIface]) (by simp [results, Try.results53, go_sem]) rfl ?_
      exact ⟨HKr.out, .inr ⟨by omega, t, N, gr, cp, rfl, hcr, HEND.out, HOW.out⟩⟩
end Go.Proofs.Ytiplibgnfcdlkaa

/-
  Opened diagrams: one or two; the result's cell.
-/
namespace Go.Proofs.Ytiplibgnfcdlkaa
open Go.RowKit

/-- An argument: its error, and its family if there is none. -/
def ZIn (w : World) (v : Value) (c : Nat) (F : Nat → Bool) : Prop := ∃ L r, ZeroAt w v L r ∧ zchk L r = c ∧ (c = 0 → ZFrom 0 F ∧ L = (zcan F).1.map zi ∧ r = (zcan F).2 ∧ (zcan F).1.length ≤ 4096)
theorem ZIn.kept {w w' : World} {v : Value} {c : Nat} {F : Nat → Bool} (h : ZIn w v c F) (hk : Kept w w') : ZIn w' v c F := let ⟨L, r, h1, h2⟩ := h; ⟨L, r, h1.kept hk, h2⟩
theorem ZIn.from {w : World} {v : Value} {c : Nat} {F : Nat → Bool} (h : ZIn w v c F) (hc : c = 0) : ZFrom 0 F := by obtain ⟨_, _, _, _, h⟩ := h; exact (h hc).1
theorem ZIn.len {w : World} {v : Value} {c : Nat} {F : Nat → Bool} (h : ZIn w v c F) (hc : c = 0) : (zcan F).1.length ≤ 4096 := by obtain ⟨_, _, _, _, h⟩ := h; exact (h hc).2.2.2
theorem ZIn.dia {w : World} {v : Value} {c : Nat} {F : Nat → Bool} (h : ZIn w v c F) (hc : c = 0) : ZDia w v F := by
  obtain ⟨L, r, h1, _, h⟩ := h
  obtain ⟨_, h2, h3, _⟩ := h hc
  unfold ZDia
  rw [← h2, ← h3]; exact h1
theorem ZeroAt.zin {w : World} {v : Value} {L : List INode} {r : Int} (h : ZeroAt w v L r) : ∃ F, ZIn w v (zchk L r) F := by
  by_cases hc : zchk L r = 0
  · obtain ⟨F, h1, h2, h3, h4⟩ := zchk_zero hc
    exact ⟨F, L, r, h, rfl, fun _ => ⟨h1, h2, h3, h4⟩⟩
  · exact ⟨zno, L, r, h, rfl, fun e => absurd e hc⟩
theorem ZDia.zin {w : World} {v : Value} {F : Nat → Bool} (h : ZDia w v F) (hF : ZFrom 0 F) (hl : (zcan F).1.length ≤ 4096) : ZIn w v 0 F :=
  ⟨_, _, h, zchk_dia hF hl, fun _ => ⟨hF, rfl, rfl, hl⟩⟩
theorem ZIn.shape {w : World} {v : Value} {c : Nat} {F : Nat → Bool} (h : ZIn w v c F) : ∃ a n cp r, v = .agg #[.slice a n cp, .int .i64 r] := by
  obtain ⟨L, r, ⟨s, rfl, h1⟩, _⟩ := h
  obtain ⟨a, cp, rfl⟩ := h1.shape
  exact ⟨_, _, _, _, rfl⟩
/-- One argument, opened. -/
structure Open1 (W w : World) (t : ZT) (N : List ZNode) (gr r : Nat) (F : Nat → Bool) : Prop where
  tbl : TblAt w t N
  len : N.length ≤ 8192
  cell : w.cell? ⟨gr, 0, none⟩ = some (.int .i64 (r : Nat))
  ref : r ≤ 1 + N.length
  fam : zm N r = F
  off : ¬ t.own w gr
  kept : Kept W w
  own : ∀ k, t.own w k → W.heap.size ≤ k
theorem open1_err {a : Option Addr} {n cp : Nat} {r : Int} {c : Nat} {F : Nat → Bool} {W : World} (h : ZIn W (.agg #[.slice a n cp, .int .i64 r]) c F) (hc : c ≠ 0) (w1 w2 : World) (hk : Kept W w1) (e2 : w2 = w1.alloc (.cells #[.slice a n cp, .int .i64 r] 24)) :
    Calls Try.prog 53 #[.slice (some ⟨w1.heap.size, 0, none⟩) 1 1] w2 fun e w' => e = .returned (.tuple #[.pointer none, .slice none 0 0, .iface 56 (.int .i64 (c : Nat))]) ∧ Kept w2 w' := by
  have hk2 : Kept w1 w2 := by rw [e2]; exact (Kept.refl _).alloc _
  have hx : RowAt w2 w1.heap.size 24 [.slice a n cp, .int .i64 r] := by rw [e2]; exact RowAt.made w1 #[.slice a n cp, .int .i64 r] 24
  have x0 := hx.cell (i := 0) (by simp)
  have x1 := hx.cell (i := 1) (by simp)
  simp only [List.getElem_cons_succ, List.getElem_cons_zero] at x0 x1
  obtain ⟨L, r', h1, h2, _⟩ := h
  refine (zopen_any w1.heap.size 0 1 0 1 c (fun _ => zno) w2 (fun i hi => ?_) (fun i hi => by omega) (by omega) (by omega) (fun _ => hc) (by omega) (by omega)).mono ?_
  · obtain rfl : i = 0 := by omega
    have h3 := h1.kept (hk.trans hk2)
    obtain ⟨s, e, hd⟩ := h3
    cases e
    exact ⟨_, _, x0, x1, fun h => by omega, fun _ => ⟨L, ⟨_, rfl, hd⟩, h2⟩⟩
  · rintro e w' ⟨hk3, ⟨_, rfl⟩ | ⟨h, _⟩⟩
    · exact ⟨by rw [errV_pos hc], hk3⟩
    · omega
theorem open1_ok {a : Option Addr} {n cp : Nat} {r : Int} {F : Nat → Bool} {W : World} (h : ZIn W (.agg #[.slice a n cp, .int .i64 r]) 0 F) (w1 w2 : World) (hk : Kept W w1) (e2 : w2 = w1.alloc (.cells #[.slice a n cp, .int .i64 r] 24)) :
    Calls Try.prog 53 #[.slice (some ⟨w1.heap.size, 0, none⟩) 1 1] w2 fun e w' => ∃ t N gr cr x, e = .returned (.tuple #[t.val, .slice (some ⟨gr, 0, none⟩) 1 cr, .nilIface]) ∧ 1 ≤ cr ∧ Open1 w2 w' t N gr x F := by
  have hk2 : Kept w1 w2 := by rw [e2]; exact (Kept.refl _).alloc _
  have hx : RowAt w2 w1.heap.size 24 [.slice a n cp, .int .i64 r] := by rw [e2]; exact RowAt.made w1 #[.slice a n cp, .int .i64 r] 24
  have x0 := hx.cell (i := 0) (by simp)
  have x1 := hx.cell (i := 1) (by simp)
  simp only [List.getElem_cons_succ, List.getElem_cons_zero] at x0 x1
  have hF := h.from rfl
  have hl := h.len rfl
  have hd := (h.dia rfl).kept (hk.trans hk2)
  refine (zopen_any w1.heap.size 0 1 1 1 0 (fun _ => F) w2 (fun i hi => ?_) (fun i hi => ⟨hF, hl⟩) (by omega) (by omega) (fun h => by omega) (by omega) (by omega)).mono ?_
  · obtain rfl : i = 0 := by omega
    exact ⟨_, _, x0, x1, fun _ => hd, fun h => by omega⟩
  · rintro e w' ⟨hk3, ⟨h, _⟩ | ⟨_, t, N, gr, cr, rfl, h1, ⟨h2, h3, h4, h5⟩, h6⟩⟩
    · omega
    · obtain ⟨x, c0, hx1, hx2⟩ := h4 0 (by omega)
      exact ⟨t, N, gr, cr, x, rfl, h1, h2, by omega, c0, hx1, hx2, h5, hk3, h6⟩
/-- Two arguments, opened. -/
structure Open2 (W w : World) (t : ZT) (N : List ZNode) (gr r s : Nat) (F G : Nat → Bool) : Prop where
  tbl : TblAt w t N
  len : N.length ≤ 8192
  cell0 : w.cell? ⟨gr, 0, none⟩ = some (.int .i64 (r : Nat))
  cell1 : w.cell? ⟨gr, 1, none⟩ = some (.int .i64 (s : Nat))
  ref0 : r ≤ 1 + N.length
  ref1 : s ≤ 1 + N.length
  fam0 : zm N r = F
  fam1 : zm N s = G
  kept : Kept W w
  own : ∀ k, t.own w k → W.heap.size ≤ k
theorem open2_at {a b : Option Addr} {n cp m cq : Nat} {r s : Int} {w1 w2 : World} (e2 : w2 = w1.alloc (.cells #[.slice a n cp, .int .i64 r, .slice b m cq, .int .i64 s] 24)) :
    Kept w1 w2 ∧ w2.cell? ⟨w1.heap.size, 0, none⟩ = some (.slice a n cp) ∧ w2.cell? ⟨w1.heap.size, 1, none⟩ = some (.int .i64 r) ∧ w2.cell? ⟨w1.heap.size, 2, none⟩ = some (.slice b m cq) ∧ w2.cell? ⟨w1.heap.size, 3, none⟩ = some (.int .i64 s) := by
  have hx : RowAt w2 w1.heap.size 24 [.slice a n cp, .int .i64 r, .slice b m cq, .int .i64 s] := by rw [e2]; exact RowAt.made w1 #[.slice a n cp, .int .i64 r, .slice b m cq, .int .i64 s] 24
  have x0 := hx.cell (i := 0) (by simp)
  have x1 := hx.cell (i := 1) (by simp)
  have x2 := hx.cell (i := 2) (by simp)
  have x3 := hx.cell (i := 3) (by simp)
  exact ⟨by rw [e2]; exact (Kept.refl _).alloc _, by simpa using x0, by simpa using x1, by simpa using x2, by simpa using x3⟩
theorem open2_err {a b : Option Addr} {n cp m cq : Nat} {r s : Int} {c d : Nat} {F G : Nat → Bool} {W : World} (h : ZIn W (.agg #[.slice a n cp, .int .i64 r]) c F) (h' : ZIn W (.agg #[.slice b m cq, .int .i64 s]) d G) {k : Nat} (hkc : k = if c = 0 then d else c) (hc : k ≠ 0) (w1 w2 : World) (hk : Kept W w1)
    (e2 : w2 = w1.alloc (.cells #[.slice a n cp, .int .i64 r, .slice b m cq, .int .i64 s] 24)) :
    Calls Try.prog 53 #[.slice (some ⟨w1.heap.size, 0, none⟩) 2 2] w2 fun e w' => e = .returned (.tuple #[.pointer none, .slice none 0 0, .iface 56 (.int .i64 (k : Nat))]) ∧ Kept w2 w' := by
  obtain ⟨hk2, x0, x1, x2, x3⟩ := open2_at e2
  by_cases hc0 : c = 0
  · subst hc0
    rw [if_pos rfl] at hkc
    subst hkc
    have hF := h.from rfl
    have hl := h.len rfl
    have hd := (h.dia rfl).kept (hk.trans hk2)
    obtain ⟨L, r', h1, h2, _⟩ := h'
    refine (zopen_any w1.heap.size 0 2 1 2 k (fun _ => F) w2 (fun i hi => ?_) (fun i hi => ⟨hF, hl⟩) (by omega) (by omega) (fun _ => hc) (by omega) (by omega)).mono ?_
    · rcases (show i = 0 ∨ i = 1 by omega) with rfl | rfl
      · exact ⟨_, _, x0, x1, fun _ => hd, fun h => by omega⟩
      · have h3 := h1.kept (hk.trans hk2)
        obtain ⟨s, e, hd2⟩ := h3
        cases e
        exact ⟨_, _, x2, x3, fun h => by omega, fun _ => ⟨L, ⟨_, rfl, hd2⟩, h2⟩⟩
    · rintro e w' ⟨hk3, ⟨_, rfl⟩ | ⟨h, _⟩⟩
      · exact ⟨by rw [errV_pos hc], hk3⟩
      · omega
  · rw [if_neg hc0] at hkc
    subst hkc
    obtain ⟨L, r', h1, h2, _⟩ := h
    obtain ⟨L2, r2, ⟨s2, e3, hd2⟩, _⟩ := h'
    refine (zopen_any w1.heap.size 0 2 0 2 k (fun _ => F) w2 (fun i hi => ?_) (fun i hi => by omega) (by omega) (by omega) (fun _ => hc) (by omega) (by omega)).mono ?_
    · rcases (show i = 0 ∨ i = 1 by omega) with rfl | rfl
      · have h3 := h1.kept (hk.trans hk2)
        obtain ⟨s, e, hd2⟩ := h3
        cases e
        exact ⟨_, _, x0, x1, fun h => by omega, fun _ => ⟨L, ⟨_, rfl, hd2⟩, h2⟩⟩
      · exact ⟨_, _, x2, x3, fun h => by omega, fun h => by omega⟩
    · rintro e w' ⟨hk3, ⟨_, rfl⟩ | ⟨h, _⟩⟩
      · exact ⟨by rw [errV_pos hc], hk3⟩
      · omega
theorem open2_ok {a b : Option Addr} {n cp m cq : Nat} {r s : Int} {F G : Nat → Bool} {W : World} (h : ZIn W (.agg #[.slice a n cp, .int .i64 r]) 0 F) (h' : ZIn W (.agg #[.slice b m cq, .int .i64 s]) 0 G) (w1 w2 : World) (hk : Kept W w1)
    (e2 : w2 = w1.alloc (.cells #[.slice a n cp, .int .i64 r, .slice b m cq, .int .i64 s] 24)) :
    Calls Try.prog 53 #[.slice (some ⟨w1.heap.size, 0, none⟩) 2 2] w2 fun e w' => ∃ t N gr cr x y, e = .returned (.tuple #[t.val, .slice (some ⟨gr, 0, none⟩) 2 cr, .nilIface]) ∧ 2 ≤ cr ∧ Open2 w2 w' t N gr x y F G := by
  obtain ⟨hk2, x0, x1, x2, x3⟩ := open2_at e2
  have hF := h.from rfl
  have hl := h.len rfl
  have hd := (h.dia rfl).kept (hk.trans hk2)
  have hG := h'.from rfl
  have hl' := h'.len rfl
  have hd' := (h'.dia rfl).kept (hk.trans hk2)
  refine (zopen_any w1.heap.size 0 2 2 2 0 (fun i => if i = 0 then F else G) w2 (fun i hi => ?_) (fun i hi => ?_) (by omega) (by omega) (fun h => by omega) (by omega) (by omega)).mono ?_
  · rcases (show i = 0 ∨ i = 1 by omega) with rfl | rfl
    · exact ⟨_, _, x0, x1, fun _ => by rw [if_pos rfl]; exact hd, fun h => by omega⟩
    · exact ⟨_, _, x2, x3, fun _ => by rw [if_neg (by omega)]; exact hd', fun h => by omega⟩
  · rcases (show i = 0 ∨ i = 1 by omega) with rfl | rfl
    · rw [if_pos rfl]; exact ⟨hF, hl⟩
    · rw [if_neg (by omega)]; exact ⟨hG, hl'⟩
  · rintro e w' ⟨hk3, ⟨h, _⟩ | ⟨_, t, N, gr, cr, rfl, h1, ⟨h2, h3, h4, h5⟩, h6⟩⟩
    · omega
    · obtain ⟨x, c0, hx1, hx2⟩ := h4 0 (by omega)
      obtain ⟨y, c1, hy1, hy2⟩ := h4 1 (by omega)
      exact ⟨t, N, gr, cr, x, y, rfl, h1, h2, by omega, c0, c1, hx1, hy1, by rw [hx2, if_pos rfl], by rw [hy2, if_neg (by omega)], hk3, h6⟩
/-- The walk's length is the number of nodes. -/
theorem zwalk_can {N : List ZNode} (hg : ZGood N) {r : Nat} (hr : r ≤ 1 + N.length) {F : Nat → Bool} (h : ∀ s, zm N r s = F s) : (zwalk N r r ([], [])).1.length = (zcan F).1.length := by
  have ho := zwalk_ok hg r hr r (Nat.le_refl _) ([], []) (ZSt.start _)
  have ha := ho.add 24 (Nat.le_refl _) (by omega)
  rw [show zm N r = F from funext h] at ha
  simp only at ha
  rw [← zcan_eq] at ha
  have h1 : (zcan F).1 = (zwalk N r r ([], [])).2 := congrArg Prod.fst ha
  rw [h1, ho.st.len]
theorem zresD_any (t : ZT) (N : List ZNode) (r : Nat) (F : Nat → Bool) (W : World) (h0 : TblAt W t N) (hr : r ≤ 1 + N.length) (hF : ∀ s, zm N r s = F s) (hm : (zcan F).1.length ≤ 4096) :
    Calls Try.prog 46 #[t.val, .int .i64 r] W fun e w' => (∃ a n c x, e = .returned (.tuple #[.agg #[.slice a n c, .int .i64 x], .nilIface]) ∧ ZDia w' (.agg #[.slice a n c, .int .i64 x]) F) ∧ Kept W w' := by
  refine (zresult_any t N r W h0 hr (by rw [zwalk_can h0.good hr hF]; exact hm)).mono ?_
  rintro e w' ⟨⟨v, rfl, hz⟩, hk⟩
  rw [show zm N r = F from funext hF, ← zcan_eq] at hz
  obtain ⟨s, rfl, hd⟩ := hz
  obtain ⟨a, c, rfl⟩ := hd.shape
  exact ⟨⟨a, _, c, _, rfl, _, rfl, hd⟩, hk⟩
/-- A diagram that is stored in a cell of the call's own. -/
theorem ZDia.past {w : World} {a : Option Addr} {n c : Nat} {x : Int} {F : Nat → Bool} (h : ZDia w (.agg #[.slice a n c, .int .i64 x]) F) {g : Nat} {p q : Value} {e : TypeId} {fr : Nat × Nat} (hg : w.heap[g]? = some (.cells #[p, q] e fr)) :
    ZDia ((w.setCell ⟨g, 0, none⟩ (.slice a n c)).setCell ⟨g, 1, none⟩ (.int .i64 x)) (.agg #[.slice a n c, .int .i64 x]) F := by
  obtain ⟨s, e, hd⟩ := h
  cases e
  exact ⟨_, rfl, hd.past hg (two_stores w g _ _)⟩
end Go.Proofs.Ytiplibgnfcdlkaa
