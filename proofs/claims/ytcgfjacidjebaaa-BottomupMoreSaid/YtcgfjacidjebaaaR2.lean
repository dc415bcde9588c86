/-
  Walks: faultlineref05.Sort.
-/
import Derived.Test.YtcgfjacidjebaaaR1
import Derived.Deep.RegionHeld3
import Derived.Deep.DeepCutAuto
namespace Go.Proofs.Ytcgfjacidjebaaa
open Go.RowKit

theorem IntsAt.take {w : World} {a : Option Addr} {c : Nat} {xs : List Int} (h : IntsAt w (.slice a xs.length c) xs) (k : Nat) (hk : k ≤ xs.length) : IntsAt w (.slice a k c) (xs.take k) := by
  obtain ⟨a', c', h1, ⟨h0, hn⟩, h2, h3⟩ := h
  cases h1
  refine ⟨a, c, by simp [Nat.min_eq_left hk], ⟨by simp; omega, hn⟩, by simp; omega, fun i hi => ?_⟩
  simp only [List.length_take] at hi
  obtain ⟨b, o, h4, h5⟩ := h3 i (by omega)
  exact ⟨b, o, h4, by simpa using h5⟩
theorem IntsAt.drop {w : World} {b o c : Nat} {xs : List Int} (h : IntsAt w (.slice (some ⟨b, o, none⟩) xs.length c) xs) (k : Nat) (hk : k ≤ xs.length) : IntsAt w (.slice (some ⟨b, o + k, none⟩) (xs.length - k) (c - k)) (xs.drop k) := by
  obtain ⟨a', c', h1, ⟨h0, hn⟩, h2, h3⟩ := h
  cases h1
  refine ⟨some ⟨b, o + k, none⟩, c - k, by simp, ⟨by simp; omega, fun h => by cases h⟩, by simp; omega, fun i hi => ?_⟩
  simp only [List.length_drop] at hi
  obtain ⟨b', o', h4, h5⟩ := h3 (k + i) (by omega)
  cases h4
  exact ⟨b, o + k, rfl, by simpa [Nat.add_assoc] using h5⟩
theorem SetsAt.take {w : World} {a : Option Addr} {c : Nat} {ns : List Nat} (h : SetsAt w (.slice a ns.length c) ns) (k : Nat) (hk : k ≤ ns.length) : SetsAt w (.slice a k c) (ns.take k) := by
  refine ⟨?_, fun n hn => h.2 n (List.mem_of_mem_take hn)⟩
  have := IntsAt.take (xs := ofN ns) (by simpa using h.1) k (by simpa using hk)
  simpa [ofN, List.map_take] using this
theorem SetsAt.drop {w : World} {b o c : Nat} {ns : List Nat} (h : SetsAt w (.slice (some ⟨b, o, none⟩) ns.length c) ns) (k : Nat) (hk : k ≤ ns.length) : SetsAt w (.slice (some ⟨b, o + k, none⟩) (ns.length - k) (c - k)) (ns.drop k) := by
  refine ⟨?_, fun n hn => h.2 n (List.mem_of_mem_drop hn)⟩
  have := IntsAt.drop (xs := ofN ns) (by simpa using h.1) k (by simpa using hk)
  simpa [ofN, List.map_drop] using this
theorem SetsAt.shape {w : World} {v : Value} {ns : List Nat} (h : SetsAt w v ns) : ∃ a c, v = .slice a ns.length c ∧ ns.length ≤ c ∧ (ns ≠ [] → ∃ b o, a = some ⟨b, o, none⟩) := by
  obtain ⟨⟨a, c, h1, ⟨h0, _⟩, _, h3⟩, _⟩ := h
  refine ⟨a, c, by simpa using h1, by simpa using h0, fun hne => ?_⟩
  have : 0 < (ofN ns).length := by simpa using List.length_pos_iff.2 hne
  obtain ⟨b, o, h4, _⟩ := h3 0 this
  exact ⟨b, o, h4⟩

def lenV : Value → Nat | .slice _ n _ => n | _ => 0
/-- What a merge has taken, and what is left. -/
structure MInv (ns zs xs ys : List Nat) : Prop where
  left : (zs ++ xs).Pairwise ltK
  right : (zs ++ ys).Pairwise ltK
  mem : ∀ z, z ∈ ns ↔ z ∈ zs ∨ z ∈ xs ∨ z ∈ ys
  len : zs.length + xs.length + ys.length ≤ ns.length
theorem MInv.start (ns : List Nat) (h : Nat) : MInv ns [] (sortK (ns.take h)) (sortK (ns.drop h)) := by
  refine ⟨by simpa using pair_sortK _, by simpa using pair_sortK _, fun z => ?_, ?_⟩
  · rw [mem_sortK, mem_sortK]
    have := List.mem_append (a := z) (s := ns.take h) (t := ns.drop h)
    rw [List.take_append_drop] at this
    simpa using this
  · have h1 := len_sortK (ns.take h)
    have h2 := len_sortK (ns.drop h)
    simp at h1 h2 ⊢
    omega
theorem MInv.eq {ns zs xs ys : List Nat} {x : Nat} (h : MInv ns zs (x :: xs) (x :: ys)) : MInv ns (zs ++ [x]) xs ys :=
  ⟨by simpa using h.left, by simpa using h.right, fun z => by rw [h.mem]; simp only [List.mem_append, List.mem_cons, List.not_mem_nil]; grind, by have := h.len; simp at this ⊢; omega⟩
theorem MInv.lt {ns zs xs ys : List Nat} {x y : Nat} (h : MInv ns zs (x :: xs) (y :: ys)) (hl : ltK x y) : MInv ns (zs ++ [x]) xs (y :: ys) := by
  refine ⟨by simpa using h.left, ?_, fun z => by rw [h.mem]; simp only [List.mem_append, List.mem_cons, List.not_mem_nil]; grind, by have := h.len; simp at this ⊢; omega⟩
  have h1 := List.pairwise_append.1 h.left
  have h2 := List.pairwise_append.1 h.right
  rw [List.pairwise_append]
  refine ⟨?_, h2.2.1, ?_⟩
  · rw [List.pairwise_append]; exact ⟨h1.1, by simp, fun a ha b hb => by simp at hb; subst hb; exact h1.2.2 a ha b (List.mem_cons_self ..)⟩
  · intro a ha b hb
    rcases List.mem_append.1 ha with ha | ha
    · exact h2.2.2 a ha b hb
    · simp at ha; subst ha
      rcases List.mem_cons.1 hb with e | e
      · rw [e]; exact hl
      · exact ltK_tr _ _ _ hl ((List.pairwise_cons.1 h2.2.1).1 b e)
theorem MInv.symm {ns zs xs ys : List Nat} (h : MInv ns zs xs ys) : MInv ns zs ys xs :=
  ⟨h.right, h.left, fun z => by rw [h.mem]; constructor <;> (intro h; rcases h with h | h | h <;> simp_all), by have := h.len; omega⟩
theorem MInv.gt {ns zs xs ys : List Nat} {x y : Nat} (h : MInv ns zs (x :: xs) (y :: ys)) (hl : ltK y x) : MInv ns (zs ++ [y]) (x :: xs) ys := (h.symm.lt hl).symm
theorem MInv.doneL {ns zs ys : List Nat} (h : MInv ns zs [] ys) : zs ++ [] ++ ys = sortK ns := by
  rw [List.append_nil]
  exact sortK_unique ns _ h.right fun x => by rw [h.mem]; simp
theorem MInv.doneR {ns zs xs : List Nat} (h : MInv ns zs xs []) : zs ++ xs ++ [] = sortK ns := by
  rw [List.append_nil]
  exact sortK_unique ns _ h.left fun x => by rw [h.mem]; simp
theorem MInv.masks {ns zs xs ys : List Nat} (h : MInv ns zs xs ys) (hm : ∀ n ∈ ns, Mk n) : (∀ n ∈ zs, Mk n) ∧ (∀ n ∈ xs, Mk n) ∧ ∀ n ∈ ys, Mk n :=
  ⟨fun n hn => hm n ((h.mem n).2 (.inl hn)), fun n hn => hm n ((h.mem n).2 (.inr (.inl hn))), fun n hn => hm n ((h.mem n).2 (.inr (.inr hn)))⟩
/-- l[1:] of a list with a head. -/
abbrev restV (b o n c : Nat) : Value := .slice (if c = 1 then some ⟨b, o, none⟩ else some ⟨b, o + 1, none⟩) n (c - 1)
theorem SetsAt.rest {w : World} {b o c : Nat} {x : Nat} {xs : List Nat} (h : SetsAt w (.slice (some ⟨b, o, none⟩) (xs.length + 1) c) (x :: xs)) : SetsAt w (restV b o xs.length c) xs := by
  have h1 := SetsAt.drop (ns := x :: xs) h 1 (by simp)
  unfold restV
  obtain ⟨a', c', h2, h3, _⟩ := h.shape
  cases h2
  by_cases hc : c = 1
  · rw [if_pos hc]
    have : xs = [] := List.eq_nil_of_length_eq_zero (by simp at h3; omega)
    subst this
    subst hc
    exact ⟨⟨_, 0, rfl, ⟨by simp, fun h => by cases h⟩, by simp, fun i hi => by simp at hi⟩, by simp⟩
  · rw [if_neg hc]
    simpa using h1
theorem SetsAt.head {w : World} {b o c m : Nat} {x : Nat} {xs : List Nat} (h : SetsAt w (.slice (some ⟨b, o, none⟩) m c) (x :: xs)) : w.cell? ⟨b, o, none⟩ = some (.int .i64 x) := by
  obtain ⟨⟨a', c', h2, _, _, h3⟩, _⟩ := h
  obtain ⟨b', o', h4, h5⟩ := h3 0 (by simp)
  cases h2
  cases h4
  simpa using h5
theorem sorted_small {ns : List Nat} (h : ns.length < 2) : sortK ns = ns := by
  match ns, h with
  | [], _ => rfl
  | [x], _ => rfl
theorem own_empty (w : World) (B : Nat) (hB : B ≤ w.heap.size) : OwnInts (w.alloc (.cells #[] 3)) B (.slice (some ⟨w.heap.size, 0, none⟩) 0 0) [] :=
  ⟨⟨by simp, .inr ⟨w.heap.size, 0, #[], rfl, hB, heap_alloc_new w _, Nat.le_refl _, by unfold maxLen; omega, by simp, by simp⟩⟩, by simp⟩
set_option maxRecDepth 100000 in
set_option maxHeartbeats 4000000 in
theorem rsort_any : ∀ (k : Nat) (ns : List Nat) (v : Value) (w : World), ns.length ≤ k → SetsAt w v ns → ns.length ≤ 8796093022208 →
    Calls Try.prog 67 #[v] w fun e w' => (∃ v', e = .returned v' ∧ OwnSets w' 0 v' (sortK ns)) ∧ Kept w w' := by
  intro k
  induction k using Nat.strongRecOn with
  | ind k ih =>
    intro ns v w hk hv hl
    obtain ⟨a, c, rfl, hc, hne⟩ := hv.shape
    by_cases h2 : ns.length < 2
    · have h2' : (ns.length : Int) < 2 := by omega
      have HV := Lib.hid hv
      have HS := Lib.hid (sorted_small h2)
      clear ih hne hv h2
      go_enter Try.func67, Try.ntmps67
      go_wp2_with (at_builtin; refine app_ints rfl _ _ rfl w.heap.size _ [] rfl (own_empty w _ (Nat.le_refl _)) _ (ofN ns) rfl (HV.out.1.kept ((Kept.refl _).alloc _)) (by simp; omega) (by simp) ?_; intro v7 w7 hown7 _ hb7; have O7 := Lib.hid hown7; have HB7 := Lib.hid hb7; clear hown7 hb7)
      go_ret
      exact ⟨⟨_, rfl, ⟨by rw [HS.out]; simpa using O7.out.mono (Nat.zero_le _), by rw [HS.out]; exact HV.out.2⟩⟩, ((Kept.refl _).alloc _).app HB7.out⟩
    · obtain ⟨b, o, rfl⟩ := hne (fun e => by subst e; simp at h2)
      obtain ⟨h, hh⟩ : ∃ h, h = ns.length / 2 := ⟨_, rfl⟩
      have hT := hv.take h (by omega)
      have hD := hv.drop h (by omega)
      obtain ⟨n, hn⟩ : ∃ n, n = ns.length := ⟨_, rfl⟩
      rw [← hn] at hk hl hc h2 hD hh ⊢
      have HIH := Lib.hid ih
      have HT := Lib.hid hT
      have HD := Lib.hid hD
      have HN := Lib.hid hn
      have hv2 := Lib.hid hv.2
      have HL : Hid (∀ W, Kept w W → Calls Try.prog 67 #[.slice (some ⟨b, o, none⟩) h c] W fun e w' => (∃ v', e = .returned v' ∧ OwnSets w' 0 v' (sortK (ns.take h))) ∧ Kept W w') :=
        Lib.hid fun W hW => HIH.out h (by omega) (ns.take h) _ W (by simp; omega) (HT.out.kept hW) (by simp; omega)
      have HR : Hid (∀ W, Kept w W → Calls Try.prog 67 #[.slice (some ⟨b, o + h, none⟩) (n - h) (c - h)] W fun e w' => (∃ v', e = .returned v' ∧ OwnSets w' 0 v' (sortK (ns.drop h))) ∧ Kept W w') :=
        Lib.hid fun W hW => HIH.out (n - h) (by omega) (ns.drop h) _ W (by have := HN.out; simp; omega) (HD.out.kept hW) (by have := HN.out; simp; omega)
      have hq1 : Int.tdiv (n : Int) 2 = (h : Int) := by rw [Int.tdiv_eq_ediv_of_nonneg (by omega)]; omega
      have hq2 : (n : Int) / 2 = (h : Int) := by omega
      have hq3 : IntKind.i64.wrap (h : Int) = (h : Int) := by rw [IntKind.wrap_i64]; omega
      have hb1 : (0 : Int) ≤ (h : Int) := by omega
      have hb2 : (h : Int) ≤ (n : Int) := by omega
      have hb3 : (h : Int) ≤ (c : Int) := by omega
      have hb4 : (n : Int) ≤ (c : Int) := by omega
      have h2' : ¬ (n : Int) < 2 := by omega
      have hcn : h ≠ c := by omega
      clear hT hD hn hv ih hne hh h2
      go_enter Try.func67, Try.ntmps67
      go_upto_region 3 with fail
      go_cut [3, 4] (fun va vb wx => SetsAt wx va (sortK (ns.take h)) ∧ SetsAt wx vb (sortK (ns.drop h)) ∧ Kept w wx)
      case first =>
        go_region_held3 (fun _ => True) (trivial)
          (first
            | (go_at_call_of 67 (Value.slice (some ⟨b, o, none⟩) h c); refine (HL.out _ (by first | exact (Kept.refl _).drew | exact (Kept.refl _).drew.trans hk6)).mono ?_; rintro e w5 ⟨⟨va, rfl, hoa⟩, hk5⟩)
            | (go_at_call 67; refine (HR.out _ (by first | exact (Kept.refl _).drew | exact (Kept.refl _).drew.trans hk5)).mono ?_; rintro e w6 ⟨⟨vb, rfl, hob⟩, hk6⟩))
        all_goals (go_wp2_with fail; go_meet; exact ⟨hoa.sets.kept hk6, hob.sets, ((Kept.refl _).drew.trans hk5).trans hk6⟩)
      case rest =>
        obtain ⟨hA, hB, hK⟩ := hcut
        have HA := Lib.hid hA
        have HB := Lib.hid hB
        have HK := Lib.hid hK
        clear hA hB hK
        clear hq1 hq2 hq3 hb1 hb2 hb3 hb4 hcn HIH HT HD HL HR hk
        go_wp2_with fail
        obtain ⟨wo, rfl⟩ : ∃ wo : World, wo = wc := ⟨_, rfl⟩
        go_loopw [3, 4, 5, 6] (fun va vb vo _ wr => ∃ (xs ys zs : List Nat), Hid (SetsAt wo va xs ∧ SetsAt wo vb ys ∧ MInv ns zs xs ys) ∧ OwnInts wr wo.heap.size vo (ofN zs) ∧ Kept wo wr) (fun va vb _ _ _ => lenV va + lenV vb)
        case atStart => exact ⟨_, _, [], Lib.hid ⟨HA.out, HB.out, MInv.start ns h⟩, OwnInts.nil _ _, Kept.refl _⟩
        case round =>
          obtain ⟨xs, ys, zs, HI, hO, hKr⟩ := hrel
          have HO := Lib.hid hO
          have HKr := Lib.hid hKr
          have hlen := HI.out.2.2.len
          rw [← HN.out] at hlen
          have hmk := HI.out.2.2.masks (fun m hm => hv2.out m hm)
          have HM := Lib.hid hmk
          have hsz := hKr.size
          clear hO hKr hmk
          match xs, ys with
          | [], ys =>
            have HA2 := Lib.hid HI.out.1
            have HB2 := Lib.hid HI.out.2.1
            have HMI := Lib.hid HI.out.2.2
            clear HI HM
            obtain ⟨aa, ca, rfl, hca, hna⟩ := HA2.out.shape
            obtain ⟨ab, cb, rfl, hcb, hnb⟩ := HB2.out.shape
            simp only [List.length_nil] at HA2 hca hlen ⊢
            clear hna hnb
            go_wp2_with (first
              | (at_builtin; refine app_ints rfl _ _ rfl wo.heap.size _ (ofN zs) rfl HO.out _ (ofN []) rfl (HA2.out.1.kept HKr.out) (by simp; omega) hsz ?_; intro v7 w7 hown7 _ hb7; have O7 := Lib.hid hown7; have HB7 := Lib.hid hb7; clear hown7 hb7)
              | (at_builtin; refine app_ints rfl _ _ rfl wo.heap.size _ (ofN zs ++ ofN []) rfl O7.out _ (ofN ys) rfl (HB2.out.1.kept (HKr.out.app HB7.out)) (by simp; omega) (by have := (HKr.out.app HB7.out).size; omega) ?_; intro v8 w8 hown8 _ hb8; have O8 := Lib.hid hown8; have HB8 := Lib.hid hb8; clear hown8 hb8))
            go_ret
            refine ⟨⟨_, rfl, ⟨?_, fun z hz => hv2.out z ((mem_sortK ns z).1 hz)⟩⟩, HK.out.trans ((HKr.out.app HB7.out).app HB8.out)⟩
            have := O8.out
            rw [← List.map_append, ← List.map_append, HMI.out.doneL] at this
            exact this.mono (Nat.zero_le _)
          | x :: xs, [] =>
            have HA2 := Lib.hid HI.out.1
            have HB2 := Lib.hid HI.out.2.1
            have HMI := Lib.hid HI.out.2.2
            clear HI HM
            obtain ⟨aa, ca, rfl, hca, hna⟩ := HA2.out.shape
            obtain ⟨ab, cb, rfl, hcb, hnb⟩ := HB2.out.shape
            simp only [List.length_nil, List.length_cons] at HA2 HB2 hca hcb hlen ⊢
            have hp1 : (0 : Int) < ((xs.length + 1 : Nat) : Int) := by omega
            clear hna hnb
            go_wp2_with (first
              | (at_builtin; refine app_ints rfl _ _ rfl wo.heap.size _ (ofN zs) rfl HO.out _ (ofN (x :: xs)) rfl (HA2.out.1.kept HKr.out) (by simp; omega) hsz ?_; intro v7 w7 hown7 _ hb7; have O7 := Lib.hid hown7; have HB7 := Lib.hid hb7; clear hown7 hb7)
              | (at_builtin; refine app_ints rfl _ _ rfl wo.heap.size _ (ofN zs ++ ofN (x :: xs)) rfl O7.out _ (ofN []) rfl (HB2.out.1.kept (HKr.out.app HB7.out)) (by simp; omega) (by have := (HKr.out.app HB7.out).size; omega) ?_; intro v8 w8 hown8 _ hb8; have O8 := Lib.hid hown8; have HB8 := Lib.hid hb8; clear hown8 hb8))
            go_ret
            refine ⟨⟨_, rfl, ⟨?_, fun z hz => hv2.out z ((mem_sortK ns z).1 hz)⟩⟩, HK.out.trans ((HKr.out.app HB7.out).app HB8.out)⟩
            have := O8.out
            rw [← List.map_append, ← List.map_append, HMI.out.doneR] at this
            exact this.mono (Nat.zero_le _)
          | x :: xs, y :: ys =>
            have HA2 := Lib.hid HI.out.1
            have HB2 := Lib.hid HI.out.2.1
            have HMI := Lib.hid HI.out.2.2
            have mx : Mk x := HM.out.2.1 x (List.mem_cons_self ..)
            have my : Mk y := HM.out.2.2 y (List.mem_cons_self ..)
            clear HI HM
            obtain ⟨aa, ca, rfl, hca, hna⟩ := HA2.out.shape
            obtain ⟨ab, cb, rfl, hcb, hnb⟩ := HB2.out.shape
            obtain ⟨ba, oa, rfl⟩ := hna (by simp)
            obtain ⟨bb, ob, rfl⟩ := hnb (by simp)
            simp only [List.length_cons] at HA2 HB2 hca hcb hlen ⊢
            have c1 := HKr.out.cell HA2.out.head
            have c2 := HKr.out.cell HB2.out.head
            clear hna hnb
            have hp1 : (0 : Int) < ((xs.length + 1 : Nat) : Int) := by omega
            have hp2 : (0 : Int) < ((ys.length + 1 : Nat) : Int) := by omega
            have hp3 : (1 : Int) ≤ ((xs.length + 1 : Nat) : Int) := by omega
            have hp4 : (1 : Int) ≤ ((ys.length + 1 : Nat) : Int) := by omega
            have hp5 : (1 : Int) ≤ (ca : Int) := by omega
            have hp6 : (1 : Int) ≤ (cb : Int) := by omega
            have hcmp : ∀ W, Calls Try.prog 99 #[.int .i64 x, .int .i64 y] W fun e w' => e = .returned (.int .i64 (cmpR x y)) ∧ w' = W := fun W => (rcompare_any mx my W).mono fun _ _ ⟨h1, h2⟩ => ⟨h1, h2.symm⟩
            by_cases hxy : x = y
            · rw [show cmpR x y = 0 from if_pos hxy] at hcmp
              subst hxy
              have HC := Lib.hid hcmp
              clear hcmp
              go_wp2_with fail
              go_quiet ((go_at_call 99; exact Calls.quiet_of_same (HC.out _)))
              generalize HWQ : World.drewN wr _ = wq
              have HKq : Hid (Kept wr wq) := Lib.hid (by rw [← HWQ]; exact (Kept.refl _).drewN _)
              have HSq : wo.heap.size ≤ wq.heap.size := by have := HKq.out.size; omega
              have d1 := HKq.out.cell c1
              have d2 := HKq.out.cell c2
              clear HWQ c1 c2
              go_wp2_with (at_builtin; refine app_int rfl _ _ rfl wo.heap.size _ (ofN zs) rfl (HO.out.kept (HKq.out.alloc _)) _ (x : Int) rfl (by simp) (by simp; omega) (by simp; omega) ?_; intro v7 w7 hown7 _ hb7; have O7 := Lib.hid hown7; have HB7 := Lib.hid hb7; clear hown7 hb7)
              go_roundw
              case rel => exact ⟨xs, ys, zs ++ [x], Lib.hid ⟨HA2.out.rest, HB2.out.rest, HMI.out.eq⟩, by simpa [ofN] using O7.out, ((HKr.out.trans (HKq.out.alloc _)).app HB7.out)⟩
              case measure => simp [lenV]; try omega
            · by_cases hlt : ltK x y
              · rw [show cmpR x y = -1 by unfold cmpR; rw [if_neg hxy, if_pos hlt]] at hcmp
                have HC := Lib.hid hcmp
                have HXY := Lib.hid hlt
                clear hcmp hlt hxy
                go_wp2_with fail
                go_quiet ((go_at_call 99; exact Calls.quiet_of_same (HC.out _)))
                generalize HWQ : World.drewN wr _ = wq
                have HKq : Hid (Kept wr wq) := Lib.hid (by rw [← HWQ]; exact (Kept.refl _).drewN _)
                have HSq : wo.heap.size ≤ wq.heap.size := by have := HKq.out.size; omega
                have d1 := HKq.out.cell c1
                have d2 := HKq.out.cell c2
                clear HWQ c1 c2
                go_wp2_with (at_builtin; refine app_int rfl _ _ rfl wo.heap.size _ (ofN zs) rfl (HO.out.kept (HKq.out.alloc _)) _ (x : Int) rfl (by simp) (by simp; omega) (by simp; omega) ?_; intro v7 w7 hown7 _ hb7; have O7 := Lib.hid hown7; have HB7 := Lib.hid hb7; clear hown7 hb7)
                go_roundw
                case rel => exact ⟨xs, y :: ys, zs ++ [x], Lib.hid ⟨HA2.out.rest, HB2.out, HMI.out.lt HXY.out⟩, by simpa [ofN] using O7.out, ((HKr.out.trans (HKq.out.alloc _)).app HB7.out)⟩
                case measure => simp [lenV]; try omega
              · rw [show cmpR x y = 1 by unfold cmpR; rw [if_neg hxy, if_neg hlt]] at hcmp
                have HC := Lib.hid hcmp
                have hgt : ltK y x := by rcases ltK_total x y with h | h | h; exact absurd h hlt; exact absurd h hxy; exact h
                have HXY := Lib.hid hgt
                clear hcmp hlt hxy hgt
                go_wp2_with fail
                go_quiet ((go_at_call 99; exact Calls.quiet_of_same (HC.out _)))
                generalize HWQ : World.drewN wr _ = wq
                have HKq : Hid (Kept wr wq) := Lib.hid (by rw [← HWQ]; exact (Kept.refl _).drewN _)
                have HSq : wo.heap.size ≤ wq.heap.size := by have := HKq.out.size; omega
                have d1 := HKq.out.cell c1
                have d2 := HKq.out.cell c2
                clear HWQ c1 c2
                go_wp2_with (at_builtin; refine app_int rfl _ _ rfl wo.heap.size _ (ofN zs) rfl (HO.out.kept (HKq.out.alloc _)) _ (y : Int) rfl (by simp) (by simp; omega) (by simp; omega) ?_; intro v7 w7 hown7 _ hb7; have O7 := Lib.hid hown7; have HB7 := Lib.hid hb7; clear hown7 hb7)
                go_roundw
                case rel => exact ⟨x :: xs, ys, zs ++ [y], Lib.hid ⟨HA2.out, HB2.out.rest, HMI.out.gt HXY.out⟩, by simpa [ofN] using O7.out, ((HKr.out.trans (HKq.out.alloc _)).app HB7.out)⟩
                case measure => simp [lenV]; try omega
end Go.Proofs.Ytcgfjacidjebaaa
