import Derived.Test.YtngbjdaaogbjmaaGreatK4
import Derived.Test.YtngbjdaaogbjmaaGreatK5
/-
  Walks: truncate.minimal.
-/
namespace Go.Proofs.YtngbjdaaogbjmaaGreat.Tr
open Go.RowKit

theorem fold_sub (l : List Nat) : ∀ out, (l.foldl keepN out).Sublist (out ++ l) := by
  induction l with
  | nil => intro out; simp
  | cons s l ih =>
    intro out
    have h := ih (keepN out s)
    show (l.foldl keepN (keepN out s)).Sublist _
    unfold keepN at h ⊢
    split at h
    · rename_i hk
      rw [if_pos hk]
      exact h.trans ((List.Sublist.refl out).append (List.sublist_cons_self s l))
    · rename_i hk
      rw [if_neg hk]
      simpa using h
theorem minN_sorted {rs ns : List Nat} (hp : rs.Pairwise fun a b => ltK a b ∨ a = b) (hm : ∀ x, x ∈ rs ↔ x ∈ ns) : minN rs = minK ns := by
  have hpc : rs.Pairwise fun a b => pc a ≤ pc b := hp.imp fun {a b} h => by
    rcases h with h | h
    · unfold ltK at h; omega
    · subst h; exact Nat.le_refl _
  have hperm := least_perm (List.Perm.refl rs) hpc
  rw [minK_congr ns rs fun x => hm x] at hperm
  have hn : (minN rs).Nodup := hperm.symm.nodup (ltK_nodup (pair_minK ns))
  have hsub : (minN rs).Sublist rs := fold_sub rs []
  have hlt : (minN rs).Pairwise ltK := ((hp.sublist hsub).and hn).imp fun {a b} h => h.1.resolve_right h.2
  exact pair_unique ltK ltK_irr ltK_tr _ _ hlt (pair_minK ns) fun x => hperm.mem_iff
theorem decides_tsub (s : Int) (B : Nat) (w : World) (hc : w.cell? ⟨B, 0, none⟩ = some (.int .i64 s)) : Decides 142 #[.pointer (some ⟨B, 0, none⟩)] (fun t => subB t s) w := by
  intro W x hK
  have hc' := hK.cell hc
  clear hc
  go_enter Tryz.func142, Tryz.ntmps142
  go_wp2_with (go_at_call 107; refine (subset_any _ _ _).mono ?_; rintro e w' ⟨rfl, rfl⟩)
  go_ret
  exact ⟨rfl, Kept.refl _⟩
set_option maxRecDepth 100000 in
set_option maxHeartbeats 4000000 in
theorem tminimal_any (v : Value) (ns : List Nat) (w : World) (hm : ∀ n ∈ ns, Mk n) (hv : IntsAt w v (ofN ns)) (hl : ns.length ≤ 1000000) :
    Calls Tryz.prog 82 #[v] w fun e w' => ∃ v', e = .returned v' ∧ OwnSets w' w.heap.size v' (minK ns) ∧ Kept w w' := by
  have HC := Lib.hid (clone_any v (ofN ns) w hv (by simp [ofN]; omega))
  have HS : Hid (∀ (v1 : Value) (w1 : World), OwnInts w1 w.heap.size v1 (ofN ns) → w.heap.size ≤ w1.heap.size → Calls Tryz.prog 47 #[v1, .func (.func 48) #[] #[]] w1 fun e w' => e = .returned (.tuple #[]) ∧ ∃ rs : List Nat, (∀ n ∈ rs, Mk n) ∧ rs.length = ns.length ∧ (rs.Pairwise (fun a b => ltK a b ∨ a = b) ∧ (∀ x, x ∈ rs ↔ x ∈ ns)) ∧ OwnInts w' w.heap.size v1 (ofN rs) ∧ Below w.heap.size w1 w') := Lib.hid fun v1 w1 ho hs => (sort_any w.heap.size v1 ns w1 hm ho hs).mono fun _ _ ⟨h1, rs, a, b, c, d, e, f⟩ => ⟨h1, rs, a, b, ⟨c, d⟩, e, f⟩
  obtain ⟨sa, sn, sc, rfl⟩ := hv.shape
  have HL := Lib.hid hl
  clear hm hv hl
  go_enter Tryz.func82, Tryz.ntmps82
  go_wp2_with (first
    | (go_at_call 103; refine HC.out.mono ?_; rintro e w1 ⟨v1, rfl, ho1, hk1⟩; have O1 := Lib.hid ho1; have K1 := Lib.hid hk1; obtain ⟨a1, n1, c1, rfl⟩ := ho1.ints.shape; clear ho1 hk1)
    | (go_at_call 47; refine (HS.out _ _ O1.out K1.out.size).mono ?_; rintro e w2 ⟨rfl, rs, hrs1, hrs2, hrs3, ho2, hb2⟩; have R1 := Lib.hid hrs1; have R2 := Lib.hid hrs2; have R3 := Lib.hid hrs3; have O2 := Lib.hid ho2; have K2 := Lib.hid (K1.out.app hb2); clear hrs1 hrs2 hrs3 ho2 hb2))
  obtain ⟨xs, hxs⟩ : ∃ xs, xs = ofN rs := ⟨_, rfl⟩
  have HXS := Lib.hid hxs
  obtain ⟨n, hn⟩ : ∃ n, n = xs.length := ⟨_, rfl⟩
  have HN := Lib.hid hn
  have hn1 : n1 = n := by
    obtain ⟨a', c', h1, _⟩ := O2.out.ints
    injection h1 with _ h2 _
    rw [h2, hn, hxs]
  have hn9 : n ≤ 1000000 := by have := R2.out; have := HL.out; rw [hn, hxs]; simp [ofN]; omega
  subst hn1
  have HX : Hid (IntsAt w2 (.slice a1 n1 c1) xs) := Lib.hid (by rw [hxs]; exact O2.out.ints)
  clear hxs hn
  go_loopg [3, 12] n1 (fun kx s3 s12 wr => ∃ (k : Nat) (vo : Value), s3 = vo ∧ s12 = .int .i64 k ∧ k ≤ n1 ∧ n1 - k ≤ kx ∧ Hid (OwnInts wr w2.heap.size vo (minOf (xs.take k))) ∧ Hid (Kept w2 wr))
  case atStart => exact ⟨0, _, rfl, rfl, Nat.zero_le _, by omega, Lib.hid (OwnInts.nil _ _), Lib.hid (Kept.refl _)⟩
  case round =>
    obtain ⟨k, vo, rfl, rfl, hk, hkx, HO, HK⟩ := hrel
    obtain ⟨oa, on, oc, rfl⟩ := HO.out.ints.shape
    have hB := HK.out.size
    by_cases hlt : k < n1
    · have hkl : k < xs.length := by have := HN.out; omega
      obtain ⟨b, o, rfl, hcell⟩ : ∃ b o, a1 = some ⟨b, o, none⟩ ∧ wr.cell? ⟨b, o + k, none⟩ = some (.int .i64 xs[k]) := by
        obtain ⟨a', c', h1, _, _, h4⟩ := HX.out.kept HK.out
        injection h1 with h1 h2 h3
        subst h1
        exact h4 k hkl
      obtain ⟨s, hs⟩ : ∃ x, x = xs[k] := ⟨_, rfl⟩
      rw [← hs] at hcell
      have hstep := minOf_take xs k hkl
      rw [← hs] at hstep
      have hlen := keepMin_len (xs.take k) []
      obtain ⟨m, hm⟩ : ∃ m, m = minOf (xs.take k) := ⟨_, rfl⟩
      have hml : m.length ≤ k := by rw [hm]; refine Nat.le_trans hlen ?_; simp; omega
      rw [← hm] at HO hstep
      have HSt := Lib.hid hstep
      have hkn : (k : Int) < (n1 : Int) := by omega
      clear hstep hlen hs hm
      have HD := Lib.hid (fun (W : World) (h : Kept (wr.alloc (.cells #[.int .i64 s] 3)) W) => has_any 142 #[.pointer (some ⟨wr.heap.size, 0, none⟩)] (enters_of Tryz.func142 (by kernel_rfl) rfl) (fun t => subB t s) (.slice oa on oc) m W (decides_tsub s wr.heap.size W (h.cell (by simp))) ((HO.out.kept (((Kept.refl _).alloc _).trans h)).ints))
      cases hq : m.any (fun t => subB t s) with
      | true =>
        have HQ := Lib.hid hq
        clear hq
        go_wp2_with (go_at_call 105; refine (HD.out _ (Kept.refl _)).mono ?_; rintro e w3 ⟨rfl, hK2⟩; rw [HQ.out])
        go_roundg (n1 - (k + 1))
        case measure => omega
        case rel => exact ⟨k + 1, _, rfl, by go_num, by omega, Nat.le_refl _, Lib.hid (by rw [HSt.out, keepMin, HQ.out]; exact HO.out.kept (((Kept.refl _).alloc _).trans hK2)), Lib.hid (HK.out.trans (((Kept.refl _).alloc _).trans hK2))⟩
      | false =>
        have HQ := Lib.hid hq
        clear hq
        go_wp2_with (first
          | (go_at_call 105; refine (HD.out _ (Kept.refl _)).mono ?_; rintro e w3 ⟨rfl, hK2⟩; rw [HQ.out]; have hbox := hK2.cell (p := ⟨wr.heap.size, 0, none⟩) (v := .int .i64 s) (by simp); have hz := hK2.size; have HK3 := Lib.hid (((Kept.refl _).alloc _).trans hK2))
          | (at_builtin; refine app_int rfl _ _ rfl w2.heap.size _ m rfl (HO.out.kept (HK3.out.alloc _)) _ s rfl (by simp) (by omega) (by simp at hz ⊢; omega) ?_; intro v7 w7 hown7 _ hb7; have O7 := Lib.hid hown7; have HB7 := Lib.hid hb7; clear hown7 hb7))
        go_roundg (n1 - (k + 1))
        case measure => omega
        case rel => exact ⟨k + 1, _, rfl, by go_num, by omega, Nat.le_refl _, Lib.hid (by rw [HSt.out, keepMin, HQ.out]; exact O7.out), Lib.hid ((HK.out.trans (HK3.out.alloc _)).app HB7.out)⟩
    · have hkn : ¬ (k : Int) < (n1 : Int) := by omega
      have hF : minOf (xs.take k) = ofN (minK ns) := by
        rw [show k = n1 by omega, HN.out, List.take_length, HXS.out, minOf_ofN rs R1.out, minN_sorted R3.out.1 R3.out.2]
      have HF := Lib.hid (by have h := HO.out; rw [hF] at h; exact h)
      have HMM : Hid (∀ x ∈ minK ns, Mk x) := Lib.hid fun x hx => R1.out x ((R3.out.2 x).2 (mem_minK hx))
      clear hF
      go_wp2
      go_ret
      exact ⟨_, rfl, ⟨HF.out.mono K2.out.size, HMM.out⟩, K2.out.trans HK.out⟩
end Go.Proofs.YtngbjdaaogbjmaaGreat.Tr
