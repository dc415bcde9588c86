import Derived.Test.YtiplibgnfcdlkaaQZH3
/-
  Walks: the reference's UpTo, With, Minimal. Printed by gen_ZH5.py.
-/
namespace Go.Proofs.Ytiplibgnfcdlkaa
open Go.RowKit

/-- A list of sets is returned. -/
def RetL (L : List Nat) (W : World) (e : Ending) (w' : World) : Prop := (∃ v', e = .returned v' ∧ IntsAt w' v' (natI L)) ∧ Kept W w'
theorem filter_step {l : List Nat} {i s : Nat} (h : i < l.length) (e : l[i] = s) (P : Nat → Bool) : (l.take (i + 1)).filter P = (l.take i).filter P ++ if P s then [s] else [] := by
  rw [List.take_succ_eq_append_getElem h, List.filter_append, e, List.filter_cons]
  cases P s <;> rfl
theorem zin_filter (L : List Nat) (P : Nat → Bool) (s : Nat) : zin (L.filter P) s = (zin L s && P s) := by
  unfold zin
  rw [Bool.eq_iff_iff, Bool.and_eq_true_iff, decide_eq_true_iff, decide_eq_true_iff, List.mem_filter]
/-- Whether no other set of a list is a subset. -/
def minP (l : List Nat) (s : Nat) : Bool := l.all fun t => decide (t = s) || !decide (sdiff t s = 0)
theorem minP_take {l : List Nat} {k t : Nat} (h : k < l.length) (e : l[k] = t) (s : Nat) : minP (l.take (k + 1)) s = (minP (l.take k) s && (decide (t = s) || !decide (sdiff t s = 0))) := by
  unfold minP
  rw [List.take_succ_eq_append_getElem h, List.all_append, e]
  simp
theorem zmin_list {F : Nat → Bool} {L : List Nat} (h : ZSorted F L) : zin (L.filter (minP L)) = zmin F := by
  funext s
  rw [zin_filter, zin_sorted h, Bool.eq_iff_iff, Bool.and_eq_true_iff, zmin_iff]
  refine and_congr_right fun hs => ?_
  unfold minP
  rw [List.all_eq_true]
  constructor
  · intro h1 u hu hsub
    have := h1 u ((h.mem u).2 hu)
    rw [Bool.or_eq_true_iff, decide_eq_true_iff, Bool.not_eq_true', decide_eq_false_iff_not] at this
    exact this.resolve_right fun h2 => h2 (sdiff_sub.2 hsub)
  · intro h1 t ht
    rw [Bool.or_eq_true_iff, decide_eq_true_iff, Bool.not_eq_true', decide_eq_false_iff_not]
    by_cases e : t = s
    · exact .inl e
    · exact .inr fun h2 => e (h1 t ((h.mem t).1 ht) (sdiff_sub.1 h2))
set_option maxRecDepth 100000 in
set_option maxHeartbeats 4000000 in
theorem rUpTo_any (v : Value) (ns : List Nat) (k : Int) (W : World) (h : IntsAt W v (natI ns)) (hm : ∀ n ∈ ns, n < 16777216) (hl : ns.length ≤ 100000) :
    Calls Try.prog 38 #[v, .int .i64 k] W (RetL (ns.filter (fun s => decide ((pc s : Int) ≤ k))) W) := by
  obtain ⟨a, cp, rfl, ⟨hc, hcn⟩, _, hx⟩ := h
  obtain ⟨n, hn⟩ : ∃ n, n = (natI ns).length := ⟨_, rfl⟩
  have HN : Hid (n = ns.length) := Lib.hid (by rw [hn, natI_len])
  have HX : Hid (∀ i (h : i < ns.length), ∃ b o, a = some ⟨b, o, none⟩ ∧ W.cell? ⟨b, o + i, none⟩ = some (.int .i64 ((ns[i] : Nat) : Int))) := Lib.hid fun i hi => by
    obtain ⟨b, o, e, hc⟩ := hx i (by rw [natI_len]; exact hi)
    exact ⟨b, o, e, by simpa [natI] using hc⟩
  have HMM := Lib.hid hm
  rw [← hn] at hc ⊢
  have hnb : n ≤ 100000 := by rw [HN.out]; exact hl
  obtain ⟨P, hP⟩ : ∃ P : Nat → Bool, P = (fun s => decide ((pc s : Int) ≤ k)) := ⟨_, rfl⟩
  rw [← hP]
  have HP := Lib.hid hP
  clear hx hm hl hn hP
  go_enter Try.func38, Try.ntmps38
  go_wp2_with fail
  go_loopg [5, 6] n (fun kx s3 s4 wr => ∃ (i m c : Nat) (b : Option Addr), s3 = .slice b m c ∧ s4 = .int .i64 i ∧ i ≤ n ∧ n - i ≤ kx ∧ m ≤ i ∧ m ≤ c ∧ Hid (m = ((ns.take i).filter P).length) ∧ Hid (OwnInts wr W.heap.size (.slice b m c) (natI ((ns.take i).filter P))) ∧ Hid (Kept W wr))
  case atStart => exact ⟨0, 0, 0, none, rfl, by first | rfl | go_num, Nat.zero_le _, by omega, Nat.le_refl _, Nat.le_refl _, Lib.hid rfl, Lib.hid (OwnInts.nil _ _), Lib.hid (Kept.refl _)⟩
  case round =>
    obtain ⟨i, m, c, b, rfl, rfl, hi, hix, hmi, hmc, HML, HO, HKr⟩ := hrel
    obtain ⟨wi, rfl⟩ : ∃ wi : World, wi = wr := ⟨_, rfl⟩
    by_cases hlt : i < n
    · have hlti : (i : Int) < (n : Int) := by omega
      have hi0 : (0 : Int) ≤ (i : Int) := by omega
      have hil : i < ns.length := by rw [← HN.out]; exact hlt
      obtain ⟨bx, ox, rfl, px⟩ := HX.out i hil
      obtain ⟨s, hs⟩ : ∃ s, s = ns[i] := ⟨_, rfl⟩
      rw [← hs] at px
      have hs24 : s < 16777216 := by rw [hs]; exact HMM.out _ (List.getElem_mem _)
      have HFS := Lib.hid (filter_step hil hs.symm P)
      have q1 := HKr.out.cell px
      have HBI : Hid (∀ w, Calls Try.prog 72 #[.int .i64 (s : Nat)] w fun e w' => e = .returned (.int .i64 (pc s : Nat)) ∧ w = w') := Lib.hid fun w => rbits_any hs24 w
      obtain ⟨pb, hpb⟩ : ∃ p, p = pc s := ⟨_, rfl⟩
      rw [← hpb] at HBI
      by_cases hle : (pb : Int) ≤ k
      · have hps : P s = true := by rw [HP.out]; exact decide_eq_true (by rw [← hpb]; exact hle)
        have HF1 : Hid (natI ((ns.take (i + 1)).filter P) = natI ((ns.take i).filter P) ++ [(s : Int)]) := Lib.hid (by rw [HFS.out, hps, if_pos rfl, natI_app]; rfl)
        have HF2 : Hid (m + 1 = ((ns.take (i + 1)).filter P).length) := Lib.hid (by rw [HFS.out, hps, if_pos rfl, List.length_append, ← HML.out]; rfl)
        have HLN : Hid ((natI ((ns.take i).filter P)).length < 17592186044416) := Lib.hid (by rw [natI_len, ← HML.out]; omega)
        have HL1 : Hid ((natI ((ns.take i).filter P) ++ [(s : Int)]).length = m + 1) := Lib.hid (by rw [List.length_append, natI_len, ← HML.out]; rfl)
        have HCA : Hid ((wi.alloc (.cells #[.int .i64 (s : Nat)] 3)).cell? ⟨wi.heap.size, 0, none⟩ = some (.int .i64 (s : Nat))) := Lib.hid (by simp)
        have HSZ : Hid (W.heap.size ≤ (wi.alloc (.cells #[.int .i64 (s : Nat)] 3)).heap.size) := Lib.hid (HKr.out.alloc _).size
        have HOA : Hid (OwnInts (wi.alloc (.cells #[.int .i64 (s : Nat)] 3)) W.heap.size (.slice b m c) (natI ((ns.take i).filter P))) := Lib.hid (HO.out.kept ((Kept.refl _).alloc _))
        clear hps hs hpb hil
        go_wp2_with (first | ((with_reducible refine (HBI.out wi).mono ?_); rintro e w5 ⟨rfl, rfl⟩) | (at_builtin; (refine app_int rfl _ _ rfl W.heap.size _ (natI ((ns.take i).filter P)) rfl HOA.out ⟨wi.heap.size, 0, none⟩ (s : Int) rfl HCA.out HLN.out HSZ.out ?_); intro v7 w7 hown7 _ hb7; obtain ⟨g7, c7, rfl, hc7, hg7⟩ := own_some hown7 HL1.out (by omega); have HO7 := Lib.hid hown7; have HK7 := Lib.hid ((HKr.out.trans ((Kept.refl wi).alloc _)).app hb7); clear hown7 hb7 hg7))
        go_roundg (n - (i + 1))
        case measure => omega
        case rel => exact ⟨i + 1, m + 1, c7, some ⟨g7, 0, none⟩, rfl, by go_num, by omega, Nat.le_refl _, by omega, hc7, HF2, Lib.hid (by rw [HF1.out]; exact HO7.out), HK7⟩
      · have hps : P s = false := by rw [HP.out]; exact decide_eq_false (by rw [← hpb]; exact hle)
        have HF1 : Hid ((ns.take (i + 1)).filter P = (ns.take i).filter P) := Lib.hid (by rw [HFS.out, hps, if_neg (by decide), List.append_nil])
        clear hps hs hpb hil
        go_wp2_with ((with_reducible refine (HBI.out wi).mono ?_); rintro e w5 ⟨rfl, rfl⟩)
        go_roundg (n - (i + 1))
        case measure => omega
        case rel => exact ⟨i + 1, m, c, b, rfl, by go_num, by omega, Nat.le_refl _, by omega, hmc, Lib.hid (by rw [HF1.out]; exact HML.out), Lib.hid (by rw [HF1.out]; exact HO.out), HKr⟩
    · have hlti : ¬ (i : Int) < (n : Int) := by omega
      have HE : Hid (ns.take i = ns) := Lib.hid (by rw [show i = ns.length by rw [← HN.out]; omega, List.take_length])
      have HFIN : Hid (IntsAt wi (.slice b m c) (natI (ns.filter P)) ∧ Kept W wi) := Lib.hid ⟨by have := HO.out.ints; rwa [HE.out] at this, HKr.out⟩
      go_wp2_with fail
      go_ret
      exact ⟨⟨_, rfl, HFIN.out.1⟩, HFIN.out.2⟩
set_option maxRecDepth 100000 in
set_option maxHeartbeats 4000000 in
theorem rWith_any (v : Value) (ns : List Nat) (k : Nat) (hk24 : k < 24) (W : World) (h : IntsAt W v (natI ns)) (hm : ∀ n ∈ ns, n < 16777216) (hl : ns.length ≤ 100000) :
    Calls Try.prog 39 #[v, .int .i64 k] W (RetL (ns.filter (fun s => s.testBit k)) W) := by
  obtain ⟨a, cp, rfl, ⟨hc, hcn⟩, _, hx⟩ := h
  obtain ⟨n, hn⟩ : ∃ n, n = (natI ns).length := ⟨_, rfl⟩
  have HN : Hid (n = ns.length) := Lib.hid (by rw [hn, natI_len])
  have HX : Hid (∀ i (h : i < ns.length), ∃ b o, a = some ⟨b, o, none⟩ ∧ W.cell? ⟨b, o + i, none⟩ = some (.int .i64 ((ns[i] : Nat) : Int))) := Lib.hid fun i hi => by
    obtain ⟨b, o, e, hc⟩ := hx i (by rw [natI_len]; exact hi)
    exact ⟨b, o, e, by simpa [natI] using hc⟩
  have HMM := Lib.hid hm
  rw [← hn] at hc ⊢
  have hnb : n ≤ 100000 := by rw [HN.out]; exact hl
  obtain ⟨P, hP⟩ : ∃ P : Nat → Bool, P = (fun s => s.testBit k) := ⟨_, rfl⟩
  rw [← hP]
  have HP := Lib.hid hP
  have hk0 : (0 : Int) ≤ (k : Int) := by omega
  have hk64 : (k : Int) < 64 := by omega
  clear hx hm hl hn hP
  go_enter Try.func39, Try.ntmps39
  go_wp2_with fail
  go_loopg [5, 6] n (fun kx s3 s4 wr => ∃ (i m c : Nat) (b : Option Addr), s3 = .slice b m c ∧ s4 = .int .i64 i ∧ i ≤ n ∧ n - i ≤ kx ∧ m ≤ i ∧ m ≤ c ∧ Hid (m = ((ns.take i).filter P).length) ∧ Hid (OwnInts wr W.heap.size (.slice b m c) (natI ((ns.take i).filter P))) ∧ Hid (Kept W wr))
  case atStart => exact ⟨0, 0, 0, none, rfl, by first | rfl | go_num, Nat.zero_le _, by omega, Nat.le_refl _, Nat.le_refl _, Lib.hid rfl, Lib.hid (OwnInts.nil _ _), Lib.hid (Kept.refl _)⟩
  case round =>
    obtain ⟨i, m, c, b, rfl, rfl, hi, hix, hmi, hmc, HML, HO, HKr⟩ := hrel
    obtain ⟨wi, rfl⟩ : ∃ wi : World, wi = wr := ⟨_, rfl⟩
    by_cases hlt : i < n
    · have hlti : (i : Int) < (n : Int) := by omega
      have hi0 : (0 : Int) ≤ (i : Int) := by omega
      have hil : i < ns.length := by rw [← HN.out]; exact hlt
      obtain ⟨bx, ox, rfl, px⟩ := HX.out i hil
      obtain ⟨s, hs⟩ : ∃ s, s = ns[i] := ⟨_, rfl⟩
      rw [← hs] at px
      have hs24 : s < 16777216 := by rw [hs]; exact HMM.out _ (List.getElem_mem _)
      have HFS := Lib.hid (filter_step hil hs.symm P)
      have q1 := HKr.out.cell px
      have hbv := zbit_val s k hs24
      cases hbit : s.testBit k with
      | true =>
        rw [hbit] at hbv
        have hps : P s = true := by rw [HP.out]; exact hbit
        have HF1 : Hid (natI ((ns.take (i + 1)).filter P) = natI ((ns.take i).filter P) ++ [(s : Int)]) := Lib.hid (by rw [HFS.out, hps, if_pos rfl, natI_app]; rfl)
        have HF2 : Hid (m + 1 = ((ns.take (i + 1)).filter P).length) := Lib.hid (by rw [HFS.out, hps, if_pos rfl, List.length_append, ← HML.out]; rfl)
        have HLN : Hid ((natI ((ns.take i).filter P)).length < 17592186044416) := Lib.hid (by rw [natI_len, ← HML.out]; omega)
        have HL1 : Hid ((natI ((ns.take i).filter P) ++ [(s : Int)]).length = m + 1) := Lib.hid (by rw [List.length_append, natI_len, ← HML.out]; rfl)
        have HCA : Hid ((wi.alloc (.cells #[.int .i64 (s : Nat)] 3)).cell? ⟨wi.heap.size, 0, none⟩ = some (.int .i64 (s : Nat))) := Lib.hid (by simp)
        have HSZ : Hid (W.heap.size ≤ (wi.alloc (.cells #[.int .i64 (s : Nat)] 3)).heap.size) := Lib.hid (HKr.out.alloc _).size
        have HOA : Hid (OwnInts (wi.alloc (.cells #[.int .i64 (s : Nat)] 3)) W.heap.size (.slice b m c) (natI ((ns.take i).filter P))) := Lib.hid (HO.out.kept ((Kept.refl _).alloc _))
        clear hps hs hbit hil
        go_wp2_with ((at_builtin; (refine app_int rfl _ _ rfl W.heap.size _ (natI ((ns.take i).filter P)) rfl HOA.out ⟨wi.heap.size, 0, none⟩ (s : Int) rfl HCA.out HLN.out HSZ.out ?_); intro v7 w7 hown7 _ hb7; obtain ⟨g7, c7, rfl, hc7, hg7⟩ := own_some hown7 HL1.out (by omega); have HO7 := Lib.hid hown7; have HK7 := Lib.hid ((HKr.out.trans ((Kept.refl wi).alloc _)).app hb7); clear hown7 hb7 hg7))
        go_roundg (n - (i + 1))
        case measure => omega
        case rel => exact ⟨i + 1, m + 1, c7, some ⟨g7, 0, none⟩, rfl, by go_num, by omega, Nat.le_refl _, by omega, hc7, HF2, Lib.hid (by rw [HF1.out]; exact HO7.out), HK7⟩
      | false =>
        rw [hbit] at hbv
        have hps : P s = false := by rw [HP.out]; exact hbit
        have HF1 : Hid ((ns.take (i + 1)).filter P = (ns.take i).filter P) := Lib.hid (by rw [HFS.out, hps, if_neg (by decide), List.append_nil])
        clear hps hs hbit hil
        go_wp2_with fail
        go_roundg (n - (i + 1))
        case measure => omega
        case rel => exact ⟨i + 1, m, c, b, rfl, by go_num, by omega, Nat.le_refl _, by omega, hmc, Lib.hid (by rw [HF1.out]; exact HML.out), Lib.hid (by rw [HF1.out]; exact HO.out), HKr⟩
    · have hlti : ¬ (i : Int) < (n : Int) := by omega
      have HE : Hid (ns.take i = ns) := Lib.hid (by rw [show i = ns.length by rw [← HN.out]; omega, List.take_length])
      have HFIN : Hid (IntsAt wi (.slice b m c) (natI (ns.filter P)) ∧ Kept W wi) := Lib.hid ⟨by have := HO.out.ints; rwa [HE.out] at this, HKr.out⟩
      go_wp2_with fail
      go_ret
      exact ⟨⟨_, rfl, HFIN.out.1⟩, HFIN.out.2⟩
set_option maxRecDepth 100000 in
set_option maxHeartbeats 4000000 in
theorem rMinimal_any (v : Value) (ns : List Nat) (W : World) (h : IntsAt W v (natI ns)) (hm : ∀ n ∈ ns, n < 16777216) (hl : ns.length ≤ 100000) :
    Calls Try.prog 37 #[v] W (RetL (ns.filter (minP ns)) W) := by
  obtain ⟨a, cp, rfl, ⟨hc, hcn⟩, _, hx⟩ := h
  obtain ⟨n, hn⟩ : ∃ n, n = (natI ns).length := ⟨_, rfl⟩
  have HN : Hid (n = ns.length) := Lib.hid (by rw [hn, natI_len])
  have HX : Hid (∀ i (h : i < ns.length), ∃ b o, a = some ⟨b, o, none⟩ ∧ W.cell? ⟨b, o + i, none⟩ = some (.int .i64 ((ns[i] : Nat) : Int))) := Lib.hid fun i hi => by
    obtain ⟨b, o, e, hc⟩ := hx i (by rw [natI_len]; exact hi)
    exact ⟨b, o, e, by simpa [natI] using hc⟩
  have HMM := Lib.hid hm
  rw [← hn] at hc ⊢
  have hnb : n ≤ 100000 := by rw [HN.out]; exact hl
  obtain ⟨P, hP⟩ : ∃ P : Nat → Bool, P = (minP ns) := ⟨_, rfl⟩
  rw [← hP]
  have HP := Lib.hid hP
  clear hx hm hl hn hP
  go_enter Try.func37, Try.ntmps37
  go_wp2_with fail
  go_loopg [3, 4] n (fun kx s3 s4 wr => ∃ (i m c : Nat) (b : Option Addr), s3 = .slice b m c ∧ s4 = .int .i64 i ∧ i ≤ n ∧ n - i ≤ kx ∧ m ≤ i ∧ m ≤ c ∧ Hid (m = ((ns.take i).filter P).length) ∧ Hid (OwnInts wr W.heap.size (.slice b m c) (natI ((ns.take i).filter P))) ∧ Hid (Kept W wr))
  case atStart => exact ⟨0, 0, 0, none, rfl, by first | rfl | go_num, Nat.zero_le _, by omega, Nat.le_refl _, Nat.le_refl _, Lib.hid rfl, Lib.hid (OwnInts.nil _ _), Lib.hid (Kept.refl _)⟩
  case round =>
    obtain ⟨i, m, c, b, rfl, rfl, hi, hix, hmi, hmc, HML, HO, HKr⟩ := hrel
    obtain ⟨wi, rfl⟩ : ∃ wi : World, wi = wr := ⟨_, rfl⟩
    by_cases hlt : i < n
    · have hlti : (i : Int) < (n : Int) := by omega
      have hi0 : (0 : Int) ≤ (i : Int) := by omega
      have hil : i < ns.length := by rw [← HN.out]; exact hlt
      obtain ⟨bx, ox, rfl, px⟩ := HX.out i hil
      obtain ⟨s, hs⟩ : ∃ s, s = ns[i] := ⟨_, rfl⟩
      rw [← hs] at px
      have hs24 : s < 16777216 := by rw [hs]; exact HMM.out _ (List.getElem_mem _)
      have HFS := Lib.hid (filter_step hil hs.symm P)
      have q1 := HKr.out.cell px
      clear hs
      go_wp2_with fail
      go_loopg [5, 6] n (fun kx s5 s6 wr => ∃ (k : Nat) (q : Bool), s5 = .bool q ∧ s6 = .int .i64 k ∧ k ≤ n ∧ n - k ≤ kx ∧ Hid (q = minP (ns.take k) s) ∧ Hid (Kept wi wr))
      case atStart => exact ⟨0, true, rfl, by first | rfl | go_num, Nat.zero_le _, by omega, Lib.hid rfl, Lib.hid (Kept.refl _)⟩
      case round =>
        obtain ⟨k, q, rfl, rfl, hk, hkx, HQ, HKq⟩ := hrel
        obtain ⟨wj, rfl⟩ : ∃ wj : World, wj = wr := ⟨_, rfl⟩
        by_cases hkn : k < n
        · have hkni : (k : Int) < (n : Int) := by omega
          have hk0 : (0 : Int) ≤ (k : Int) := by omega
          have hkl : k < ns.length := by rw [← HN.out]; exact hkn
          obtain ⟨by', oy, ey, py⟩ := HX.out k hkl
          cases ey
          obtain ⟨y, hy⟩ : ∃ y, y = ns[k] := ⟨_, rfl⟩
          rw [← hy] at py
          have hy24 : y < 16777216 := by rw [hy]; exact HMM.out _ (List.getElem_mem _)
          have r1 := (HKr.out.trans HKq.out).cell px
          have r2 := (HKr.out.trans HKq.out).cell py
          have HST := Lib.hid (minP_take hkl hy.symm s)
          obtain ⟨d, hd⟩ : ∃ d, d = sdiff y s := ⟨_, rfl⟩
          have hand : bits .andNot .i64 (y : Int) (s : Int) = (d : Int) := by rw [hd]; exact andNot_i64 y s (by omega) (by omega)
          clear hy
          cases q with
          | false =>
            have HQ2 : Hid (false = minP (ns.take (k + 1)) s) := Lib.hid (by rw [HST.out, ← HQ.out]; rfl)
            clear hd hkl
            go_upto_region 9 with fail
            go_quiet (fail)
            go_wp2_with fail
            go_roundg (n - (k + 1))
            case measure => omega
            case rel => exact ⟨k + 1, false, rfl, by go_num, by omega, Nat.le_refl _, HQ2, Lib.hid (HKq.out.drewN _)⟩
          | true =>
            by_cases hys : y = s
            · have HQ2 : Hid (true = minP (ns.take (k + 1)) s) := Lib.hid (by rw [HST.out, ← HQ.out, decide_eq_true hys]; rfl)
              have g1 : decide ((y : Int) = (s : Int)) = true := decide_eq_true (by omega)
              have g2 : ((y : Int) == (s : Int)) = true := by rw [beq_iff_eq]; omega
              clear hd hkl hys
              go_upto_region 9 with fail
              go_quiet (fail)
              go_wp2_with fail
              go_roundg (n - (k + 1))
              case measure => omega
              case rel => exact ⟨k + 1, true, by first | rfl | simp, by go_num, by omega, Nat.le_refl _, HQ2, Lib.hid (HKq.out.drewN _)⟩
            · have g1 : decide ((y : Int) = (s : Int)) = false := decide_eq_false (by omega)
              have g2 : ((y : Int) == (s : Int)) = false := beq_eq_false_iff_ne.2 (by omega)
              by_cases hd0 : d = 0
              · have HQ2 : Hid (false = minP (ns.take (k + 1)) s) := Lib.hid (by rw [HST.out, ← HQ.out, decide_eq_false hys, ← hd, hd0]; rfl)
                subst hd0
                have g3 : decide ((0 : Int) = 0) = true := decide_eq_true rfl
                clear hd hkl hys
                go_upto_region 9 with fail
                go_quiet (fail)
                go_wp2_with fail
                go_roundg (n - (k + 1))
                case measure => omega
                case rel => exact ⟨k + 1, false, by first | rfl | simp, by go_num, by omega, Nat.le_refl _, HQ2, Lib.hid (HKq.out.drewN _)⟩
              · have HQ2 : Hid (true = minP (ns.take (k + 1)) s) := Lib.hid (by rw [HST.out, ← HQ.out, decide_eq_false hys, ← hd, decide_eq_false hd0]; rfl)
                have g3 : ((d : Int) == 0) = false := beq_eq_false_iff_ne.2 (by omega)
                have g4 : ((d : Int) != 0) = true := by rw [bne, g3]; rfl
                have g5 : decide ((d : Int) = 0) = false := decide_eq_false (by omega)
                clear hd hkl hys
                go_upto_region 9 with fail
                go_quiet (fail)
                go_wp2_with fail
                go_roundg (n - (k + 1))
                case measure => omega
                case rel => exact ⟨k + 1, true, by first | rfl | simp, by go_num, by omega, Nat.le_refl _, HQ2, Lib.hid (HKq.out.drewN _)⟩
        · have hkni : ¬ (k : Int) < (n : Int) := by omega
          have HQE : Hid (q = P s) := Lib.hid (by rw [HP.out, HQ.out, show k = ns.length by rw [← HN.out]; omega, List.take_length])
          have HKW := Lib.hid (HKr.out.trans HKq.out)
          have HOW := Lib.hid (HO.out.kept HKq.out)
          have r1 := HKW.out.cell px
          cases q with
          | true =>
            have hps : P s = true := HQE.out.symm
            have HF1 : Hid (natI ((ns.take (i + 1)).filter P) = natI ((ns.take i).filter P) ++ [(s : Int)]) := Lib.hid (by rw [HFS.out, hps, if_pos rfl, natI_app]; rfl)
            have HF2 : Hid (m + 1 = ((ns.take (i + 1)).filter P).length) := Lib.hid (by rw [HFS.out, hps, if_pos rfl, List.length_append, ← HML.out]; rfl)
            have HLN : Hid ((natI ((ns.take i).filter P)).length < 17592186044416) := Lib.hid (by rw [natI_len, ← HML.out]; omega)
            have HL1 : Hid ((natI ((ns.take i).filter P) ++ [(s : Int)]).length = m + 1) := Lib.hid (by rw [List.length_append, natI_len, ← HML.out]; rfl)
            have HCA : Hid ((wj.alloc (.cells #[.int .i64 (s : Nat)] 3)).cell? ⟨wj.heap.size, 0, none⟩ = some (.int .i64 (s : Nat))) := Lib.hid (by simp)
            have HSZ : Hid (W.heap.size ≤ (wj.alloc (.cells #[.int .i64 (s : Nat)] 3)).heap.size) := Lib.hid (HKW.out.alloc _).size
            have HOA : Hid (OwnInts (wj.alloc (.cells #[.int .i64 (s : Nat)] 3)) W.heap.size (.slice b m c) (natI ((ns.take i).filter P))) := Lib.hid (HOW.out.kept ((Kept.refl _).alloc _))
            clear hps
            go_wp2_with ((at_builtin; (refine app_int rfl _ _ rfl W.heap.size _ (natI ((ns.take i).filter P)) rfl HOA.out ⟨wj.heap.size, 0, none⟩ (s : Int) rfl HCA.out HLN.out HSZ.out ?_); intro v7 w7 hown7 _ hb7; obtain ⟨g7, c7, rfl, hc7, hg7⟩ := own_some hown7 HL1.out (by omega); have HO7 := Lib.hid hown7; have HK7 := Lib.hid ((HKW.out.trans ((Kept.refl wj).alloc _)).app hb7); clear hown7 hb7 hg7))
            go_roundg (n - (i + 1))
            case measure => omega
            case rel => exact ⟨i + 1, m + 1, c7, some ⟨g7, 0, none⟩, rfl, by go_num, by omega, Nat.le_refl _, by omega, hc7, HF2, Lib.hid (by rw [HF1.out]; exact HO7.out), HK7⟩
          | false =>
            have hps : P s = false := HQE.out.symm
            have HF1 : Hid ((ns.take (i + 1)).filter P = (ns.take i).filter P) := Lib.hid (by rw [HFS.out, hps, if_neg (by decide), List.append_nil])
            clear hps
            go_wp2_with fail
            go_roundg (n - (i + 1))
            case measure => omega
            case rel => exact ⟨i + 1, m, c, b, rfl, by go_num, by omega, Nat.le_refl _, by omega, hmc, Lib.hid (by rw [HF1.out]; exact HML.out), Lib.hid (by rw [HF1.out]; exact HOW.out), HKW⟩
    · have hlti : ¬ (i : Int) < (n : Int) := by omega
      have HE : Hid (ns.take i = ns) := Lib.hid (by rw [show i = ns.length by rw [← HN.out]; omega, List.take_length])
      have HFIN : Hid (IntsAt wi (.slice b m c) (natI (ns.filter P)) ∧ Kept W wi) := Lib.hid ⟨by have := HO.out.ints; rwa [HE.out] at this, HKr.out⟩
      go_wp2_with fail
      go_ret
      exact ⟨⟨_, rfl, HFIN.out.1⟩, HFIN.out.2⟩
end Go.Proofs.Ytiplibgnfcdlkaa
