import Derived.Test.YtngbjdaaogbjmaaGreatTN2m
import Derived.Test.YtngbjdaaogbjmaaGreatTN6m
/-
  Walks: slices.SortStableFunc at the rows of truncate: the row behind it is a permutation, sorted.
-/
namespace Go.Proofs.YtngbjdaaogbjmaaGreat.Tr
open Go.Shelf Go.RowKit Go.Lib Go.Sort

section
variable {α : Type} [Inhabited α] {lt : α → α → Bool}
theorem dvd_step {k x a : Nat} (h1 : k ∣ x) (h2 : k ∣ a) (h : x < a) : x + k ≤ a := by
  obtain ⟨u, rfl⟩ := h1
  obtain ⟨v, rfl⟩ := h2
  have : u < v := Nat.lt_of_mul_lt_mul_left h
  have := Nat.mul_le_mul_left k (show u + 1 ≤ v from this)
  rw [Nat.mul_add, Nat.mul_one] at this
  exact this
/-- Sorted in each block of k below a. -/
def Blks (lt : α → α → Bool) (k a : Nat) (d : Array α) : Prop := ∀ x, k ∣ x → x < a → SortedIn lt x (x + k) d
/-- Sorted in each block of k from a on. -/
def BlkF (lt : α → α → Bool) (k a n : Nat) (d : Array α) : Prop := ∀ x, k ∣ x → a ≤ x → SortedIn lt x (min (x + k) n) d
theorem Blks.step {k a : Nat} {d d' : Array α} (h : Blks lt k a d) (ha : k ∣ a) (hm : Mrg lt a (a + k) d d') : Blks lt k (a + k) d' := by
  intro x hx hxa
  by_cases e : x < a
  · have := dvd_step hx ha e
    exact (h x hx e).congr fun i _ h2 => hm.1.2.1 i (.inl (by omega))
  · have : x = a := by
      by_cases e2 : a < x
      · have := dvd_step ha hx e2; omega
      · omega
    subst this; exact hm.2
theorem Blks.last {k a n : Nat} {d d' : Array α} (h : Blks lt k a d) (ha : k ∣ a) (han : a ≤ n) (hn : n < a + k) (hm : Mrg lt a n d d') : BlkF lt k 0 n d' := by
  intro x hx _
  by_cases e : x < a
  · have := dvd_step hx ha e
    rw [Nat.min_eq_left (by omega)]
    exact (h x hx e).congr fun i _ h2 => hm.1.2.1 i (.inl (by omega))
  · by_cases e2 : a < x
    · have := dvd_step ha hx e2
      rw [Nat.min_eq_right (by omega)]
      exact fun i j h1 h2 h3 => by omega
    · have : x = a := by omega
      subst this
      rw [Nat.min_eq_right (by omega)]
      exact hm.2
theorem BlkF.step {k a n b : Nat} {d d' : Array α} (h : BlkF lt k a n d) (hab : a ≤ b) (hp : PermIn a b d d') : BlkF lt k b n d' := fun x hx hxb =>
  (h x hx (by omega)).congr fun i h1 _ => hp.2.1 i (.inr (by omega))
theorem insMrg (hO : SWO lt) (d : Array α) (a b : Nat) (hab : a ≤ b) (hb : b ≤ d.size) : Mrg lt a b d (Sort.insertionSort lt d a b) := by
  have h := insertionSort_holds hO d a b hab hb
  exact ⟨h.1, h.2⟩
end
def rowLays_ren : Go.Shelf.Ren := ⟨fun | 20 => 203 | n => n, fun | 24 => 109 | 22 => 105 | 3 => 3 | 25 => 155 | 4 => 4 | 0 => 0 | n => n, fun | n => n⟩
theorem rowLays : Go.Proofs.SlLaysF0.n20 Tryz.prog rowLays_ren := {
  mixed := by kernel_rfl
  f20 := ⟨Tryz.f203.name, by decide, Tryz.func203.trans (congrArg some (by kernel_rfl))⟩
  t0 := Tryz.underlying0
  a0 := Tryz.isAgg0
  z0 := Tryz.sizeOf0
  v0 := Tryz.zeroValue0
  t3 := Tryz.underlying3
  a3 := Tryz.isAgg3
  z3 := Tryz.sizeOf3
  v3 := Tryz.zeroValue3
  t4 := Tryz.underlying4
  a4 := Tryz.isAgg4
  z4 := Tryz.sizeOf4
  v4 := Tryz.zeroValue4
  t22 := Tryz.underlying105
  a22 := Tryz.isAgg105
  z22 := Tryz.sizeOf105
  v22 := Tryz.zeroValue105
  t25 := Tryz.underlying155
  a25 := Tryz.isAgg155
  z25 := Tryz.sizeOf155
  v25 := Tryz.zeroValue155 }
theorem cmpLaysR (blk off size : Nat) (w : World) : CmpLays Tryz.prog 135 #[] encR 3 cfR blk off size w := fun _ _ _ _ x y => leastCmp x y _
theorem rowK_of {blk off : Nat} {d : Array Nat} {w : World} (hH : HoldsK encR 3 w blk off d) (hb : blk < w.heap.size) : RowK encR 3 w blk off d where
  hk _ := rfl
  h1 x v hv := by simp [encR, rcells] at hv; rcases hv with rfl | rfl | rfl <;> rfl
  hH := hH
  hblk := hb
set_option maxHeartbeats 8000000 in
set_option maxRecDepth 1000000 in
theorem stable_any (blk off cap : Nat) (d : Array Nat) (w0 : World) (hH : HoldsK encR 3 w0 blk off d) (hblk : blk < w0.heap.size) (hsz : d.size ≤ 1000000000) :
    Calls Tryz.prog 184 #[.slice (some ⟨blk, off, none⟩) d.size cap, .int .i64 d.size, .func (.func 135) #[] #[]] w0 fun e w' => e = .returned (.tuple #[]) ∧ ∃ dn, Mrg (ltOf cfR) 0 d.size d dn ∧ SWK encR 3 w0 blk off dn w' := by
  have R := rowK_of hH hblk
  have eg : ∀ args w, (callFunc 135 args).run Tryz.prog w = .ok (.enter 135 args) w := enters_of Tryz.func135 (by kernel_rfl) rfl
  have HINS : Hid (∀ (a b : Nat) (dk : Array Nat) (w : World), dk.size = d.size → SWK encR 3 w0 blk off dk w → a ≤ b → b ≤ d.size →
      Calls Tryz.prog 203 #[.slice (some ⟨blk, off, none⟩) d.size cap, .int .i64 a, .int .i64 b, .func (.func 135) #[] #[]] w fun e w' => e = .returned (.tuple #[]) ∧ ∃ dn, Mrg (ltOf cfR) a b dk dn ∧ SWK encR 3 w0 blk off dn w') :=
    Lib.hid fun a b dk w h1 h2 h3 h4 => by
      have := AnyQ.insertionSortCmpFunc_w (P := Tryz.prog) rowLays 3 Tryz.isAgg109 Tryz.sizeOf109 encR cfR 135 #[] blk off cap a b d dk w0 w eg (cmpLaysR blk off d.size w0) R h1.symm h2 swoR h3 (by omega) (by omega)
      rw [h1] at this
      exact this.mono fun e w' ⟨he, hw⟩ => ⟨he, _, insMrg swoR dk a b h3 (by omega), hw⟩
  have HSYM : Hid (∀ (a m b : Nat) (dk : Array Nat) (w : World), dk.size = d.size → SWK encR 3 w0 blk off dk w → a < m → m < b → b ≤ d.size → SortedIn (ltOf cfR) a m dk → SortedIn (ltOf cfR) m b dk →
      Calls Tryz.prog 204 #[.slice (some ⟨blk, off, none⟩) d.size cap, .int .i64 a, .int .i64 m, .int .i64 b, .func (.func 135) #[] #[]] w fun e w' => e = .returned (.tuple #[]) ∧ ∃ dn, Mrg (ltOf cfR) a b dk dn ∧ SWK encR 3 w0 blk off dn w') :=
    Lib.hid fun a m b dk w h1 h2 h3 h4 h5 h6 h7 => symMerge_o 3 stL encR cfR swoR 135 #[] eg blk off cap d w0 (cmpLaysR blk off d.size w0) R (by omega) (b - a) a m b dk w (Nat.le_refl _) h1.symm h2 h3 h4 (by omega) h6 h7
  have S0 : Aside (SWK encR 3 w0 blk off d w0) := SWK.start hH
  have HH : Hid _ := R
  clear R hH eg
  obtain ⟨n, hn⟩ : ∃ n, n = d.size := ⟨_, rfl⟩
  have HN := Lib.hid hn
  rw [← hn] at HINS HSYM hsz ⊢
  clear hn
  go_enter Tryz.func184, Tryz.ntmps184
  go_wp2
  go_loopg [7, 8] (n + 20) (fun kx s7 s8 wr => ∃ (a : Nat) (dk : Array Nat), s7 = .int .i64 a ∧ s8 = .int .i64 (a + 20 : Nat) ∧ a ≤ n ∧ n + 20 - a ≤ kx ∧ Aside (SWK encR 3 w0 blk off dk wr) ∧ Hid (20 ∣ a ∧ PermIn 0 n d dk ∧ Blks (ltOf cfR) 20 a dk))
  case atStart => exact ⟨0, d, rfl, rfl, Nat.zero_le _, by omega, S0, Lib.hid ⟨⟨0, rfl⟩, permIn_refl _ _ _, fun x _ h => by omega⟩⟩
  case round =>
    clear S0
    obtain ⟨a, dk, rfl, rfl, han, hkx, S1, HW⟩ := hrel
    obtain ⟨b, hb⟩ : ∃ b, b = a + 20 := ⟨_, rfl⟩
    rw [← hb]
    have hds : dk.size = n := by rw [HW.out.2.1.1, HN.out]
    by_cases hlt : b ≤ n
    · have hltz : (b : Int) ≤ (n : Int) := by omega
      have HCI := Lib.hid (HINS.out a b dk wr (by have := HN.out; omega) S1.out (by omega) (by omega))
      have HB := Lib.hid hb
      have hb20 : (b : Int) + 20 < 4611686018427387904 := by omega
      have hba : a < b := by omega
      have hbk : n + 20 - b < n + 20 - a := by omega
      clear hb S1 hds
      go_wp2_with (go_at_call 203; refine HCI.out.mono ?_; rintro e w2 ⟨rfl, dn, hm, hs⟩)
      have hrel2 : Hid (20 ∣ b ∧ PermIn 0 n d dn ∧ Blks (ltOf cfR) 20 b dn) := by
        obtain ⟨h1, h2, h3⟩ := HW.out
        have hm' := hm
        rw [HB.out] at hm' ⊢
        exact Lib.hid ⟨Nat.dvd_add h1 (Nat.dvd_refl 20), permIn_trans _ _ _ _ _ h2 (permIn_mono _ _ _ _ _ _ (Nat.zero_le _) (by have := HB.out; omega) (by rw [h2.1, HN.out]; omega) hm'.1), h3.step h1 hm'⟩
      have S2 : Aside (SWK encR 3 w0 blk off dn w2) := hs
      clear hm hs HCI HW HB
      go_wp2
      go_roundg (n + 20 - b)
      case measure => omega
      case rel => exact ⟨b, dn, rfl, by go_num, hlt, Nat.le_refl _, S2, hrel2⟩
    · have hltz : ¬ (b : Int) ≤ (n : Int) := by omega
      have HCI := Lib.hid (HINS.out a n dk wr (by have := HN.out; omega) S1.out han (Nat.le_refl _))
      have HB := Lib.hid hb
      have hnb : n < a + 20 := by omega
      clear hb S1 hds
      go_wp2_with (go_at_call 203; refine HCI.out.mono ?_; rintro e w2 ⟨rfl, dn, hm, hs⟩)
      have hrel2 : Hid (PermIn 0 n d dn ∧ BlkF (ltOf cfR) 20 0 n dn) := by
        obtain ⟨h1, h2, h3⟩ := HW.out
        exact Lib.hid ⟨permIn_trans _ _ _ _ _ h2 (permIn_mono _ _ _ _ _ _ (Nat.zero_le _) (Nat.le_refl _) (by rw [h2.1, HN.out]; exact Nat.le_refl _) hm.1), h3.last h1 han hnb hm⟩
      have S2 : Aside (SWK encR 3 w0 blk off dn w2) := hs
      clear hm hs HCI HW HB
      go_wp2
      clear HINS
      go_loopg [6] n (fun kx s6 wr => ∃ (bs : Nat) (dk : Array Nat), s6 = .int .i64 bs ∧ 0 < bs ∧ bs ≤ 2000000000 ∧ n - bs ≤ kx ∧ Aside (SWK encR 3 w0 blk off dk wr) ∧ Hid (PermIn 0 n d dk ∧ BlkF (ltOf cfR) bs 0 n dk))
      case atStart => exact ⟨20, dn, rfl, by omega, by omega, by omega, S2, hrel2⟩
      case round =>
        clear S2 hrel2 hltz hnb hkx han
        obtain ⟨bs, dk2, rfl, hbs0, hbs9, hkx2, S3, HW⟩ := hrel
        by_cases hlt2 : bs < n
        · have hltz2 : (bs : Int) < (n : Int) := by omega
          obtain ⟨t, ht⟩ : ∃ t, t = 2 * bs := ⟨_, rfl⟩
          have q1 : 2 * (bs : Int) = (t : Int) := by omega
          have q2 : (bs : Int) * 2 = (t : Int) := by omega
          have ht9 : (t : Int) ≤ 2000000000 := by omega
          have HT := Lib.hid ht
          have hbst : bs < t := by omega
          clear ht
          go_wp2
          go_loopg [7, 8] (n + t) (fun kx s7 s8 wr => ∃ (a c : Nat) (dk : Array Nat), s7 = .int .i64 a ∧ s8 = .int .i64 c ∧ Hid (c = a + t) ∧ a ≤ n ∧ n + t - a ≤ kx ∧ Aside (SWK encR 3 w0 blk off dk wr) ∧ Hid (t ∣ a ∧ PermIn 0 n d dk ∧ Blks (ltOf cfR) t a dk ∧ BlkF (ltOf cfR) bs a n dk))
          case atStart => exact ⟨0, t, dk2, rfl, rfl, Lib.hid (by omega), Nat.zero_le _, by omega, S3, Lib.hid ⟨⟨0, rfl⟩, HW.out.1, fun x _ h => by omega, HW.out.2⟩⟩
          case round =>
            clear S3 HW
            obtain ⟨a2, c, dk3, rfl, rfl, HCA, han2, hkx3, S4, HW⟩ := hrel
            have hca := HCA.out
            obtain ⟨m, hm⟩ : ∃ m, m = a2 + bs := ⟨_, rfl⟩
            have q3 : (a2 : Int) + (bs : Int) = (m : Int) := by omega
            have hm9 : (m : Int) ≤ 4000000000 := by omega
            have hdsz : dk3.size = d.size := HW.out.2.1.1
            have hdsa : d.size = n := HN.out.symm
            have HDV : Hid (bs ∣ a2 ∧ bs ∣ m) := Lib.hid (by
              have h1 : bs ∣ a2 := Nat.dvd_trans ⟨2, by have := HT.out; omega⟩ HW.out.1
              exact ⟨h1, by rw [hm]; exact Nat.dvd_add h1 (Nat.dvd_refl bs)⟩)
            have HL : Hid (SortedIn (ltOf cfR) a2 (min m n) dk3) := Lib.hid (by rw [hm]; exact HW.out.2.2.2 a2 HDV.out.1 (Nat.le_refl _))
            have HR : Hid (SortedIn (ltOf cfR) m (min c n) dk3) := Lib.hid (by
              have h := HW.out.2.2.2 m HDV.out.2 (by omega)
              rw [show m + bs = c by have := HT.out; omega] at h; exact h)
            by_cases hlt3 : c ≤ n
            · have hltz3 : (c : Int) ≤ (n : Int) := by omega
              have hl2 : SortedIn (ltOf cfR) a2 m dk3 := by have h := HL.out; rw [Nat.min_eq_left (by omega)] at h; exact h
              have hr2 : SortedIn (ltOf cfR) m c dk3 := by have h := HR.out; rw [Nat.min_eq_left (by omega)] at h; exact h
              have HCS := Lib.hid (HSYM.out a2 m c dk3 wr (by omega) S4.out (by omega) (by have := HT.out; omega) hlt3 hl2 hr2)
              obtain ⟨c', hc'⟩ : ∃ c', c' = c + t := ⟨_, rfl⟩
              have q4 : (c : Int) + (t : Int) = (c' : Int) := by omega
              have hc9 : (c' : Int) ≤ 8000000000 := by omega
              have HCC : Hid (c' = c + t) := Lib.hid hc'
              have hac : a2 < c := by omega
              clear hm hl2 hr2 hc' hca S4 hdsz hdsa
              go_wp2_with (go_at_call 204; refine HCS.out.mono ?_; rintro e w3 ⟨rfl, d4, hmg, hs4⟩)
              have hrel4 : Hid (t ∣ c ∧ PermIn 0 n d d4 ∧ Blks (ltOf cfR) t c d4 ∧ BlkF (ltOf cfR) bs c n d4) := by
                obtain ⟨h1, h2, h3, h4⟩ := HW.out
                have hc := HCA.out
                refine Lib.hid ⟨by rw [hc]; exact Nat.dvd_add h1 (Nat.dvd_refl t), permIn_trans _ _ _ _ _ h2 (permIn_mono _ _ _ _ _ _ (Nat.zero_le _) hlt3 (by rw [h2.1, HN.out]; exact Nat.le_refl _) hmg.1), ?_, h4.step (by omega) hmg.1⟩
                rw [hc] at hmg ⊢
                exact h3.step h1 hmg
              have S5 : Aside (SWK encR 3 w0 blk off d4 w3) := hs4
              have hgo : n + t - c < n + t - a2 := by omega
              clear hmg hs4 HCS HW HCA HL HR HDV q3
              go_wp2
              go_roundg (n + t - c)
              case measure => omega
              case rel => exact ⟨c, c', d4, rfl, rfl, HCC, hlt3, Nat.le_refl _, S5, hrel4⟩
            · have hltz3 : ¬ (c : Int) ≤ (n : Int) := by omega
              by_cases hlt4 : m < n
              · have hltz4 : (m : Int) < (n : Int) := by omega
                have hl2 : SortedIn (ltOf cfR) a2 m dk3 := by have h := HL.out; rw [Nat.min_eq_left (by omega)] at h; exact h
                have hr2 : SortedIn (ltOf cfR) m n dk3 := by have h := HR.out; rw [Nat.min_eq_right (by omega)] at h; exact h
                have HCS := Lib.hid (HSYM.out a2 m n dk3 wr (by omega) S4.out (by omega) hlt4 (by omega) hl2 hr2)
                have hcn : n < a2 + t := by omega
                clear hm hl2 hr2 hca S4 hdsz hdsa
                go_wp2_with (go_at_call 204; refine HCS.out.mono ?_; rintro e w3 ⟨rfl, d4, hmg, hs4⟩)
                have hrel4 : Hid (PermIn 0 n d d4 ∧ BlkF (ltOf cfR) t 0 n d4) := by
                  obtain ⟨h1, h2, h3, h4⟩ := HW.out
                  exact Lib.hid ⟨permIn_trans _ _ _ _ _ h2 (permIn_mono _ _ _ _ _ _ (Nat.zero_le _) (Nat.le_refl _) (by rw [h2.1, HN.out]; exact Nat.le_refl _) hmg.1), h3.last h1 han2 hcn hmg⟩
                have S5 : Aside (SWK encR 3 w0 blk off d4 w3) := hs4
                have hgo : n - t < n - bs := by omega
                clear hmg hs4 HCS HW HCA HL HR HDV q3
                go_wp2
                go_roundg (n - t)
                case measure => omega
                case rel => exact ⟨t, d4, rfl, by omega, by omega, Nat.le_refl _, S5, hrel4⟩
              · have hltz4 : ¬ (m : Int) < (n : Int) := by omega
                have hcn : n < a2 + t := by omega
                have hrel4 : Hid (PermIn 0 n d dk3 ∧ BlkF (ltOf cfR) t 0 n dk3) := by
                  obtain ⟨h1, h2, h3, h4⟩ := HW.out
                  have hl2 : SortedIn (ltOf cfR) a2 n dk3 := by have h := HL.out; rw [Nat.min_eq_right (by omega)] at h; exact h
                  exact Lib.hid ⟨h2, h3.last h1 han2 hcn ⟨permIn_refl _ _ _, hl2⟩⟩
                have hgo : n - t < n - bs := by omega
                clear hm hca hdsz hdsa HW HCA HL HR HDV
                go_wp2
                go_roundg (n - t)
                case measure => omega
                case rel => exact ⟨t, dk3, rfl, by omega, by omega, Nat.le_refl _, S4, hrel4⟩
        · have hltz2 : ¬ (bs : Int) < (n : Int) := by omega
          have HF : Hid (Mrg (ltOf cfR) 0 n d dk2) := Lib.hid ⟨HW.out.1, by have h := HW.out.2 0 ⟨0, rfl⟩ (Nat.le_refl _); rw [Nat.min_eq_right (by omega)] at h; exact h⟩
          go_wp2
          go_end0
          exact ⟨rfl, dk2, HF.out, S3.out⟩
end Go.Proofs.YtngbjdaaogbjmaaGreat.Tr
