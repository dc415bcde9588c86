import Derived.Test.YtngbjdaaogbjmaaGreatTN3m
/-
  Walks over a program that is a variable: symMerge of slices.SortStableFunc at the rows of truncate.
-/
namespace Go.Proofs.YtngbjdaaogbjmaaGreat.Tr
open Go.Shelf Go.RowKit Go.Lib Go.Sort
section
variable {P : Program} {α : Type} [Inhabited α]
set_option maxHeartbeats 8000000 in
set_option maxRecDepth 1000000 in
theorem symLeft_o (k : Nat) (L : StL P k) (enc : α → List Value) (cf : α → α → Int) (hO : SWO (ltOf cf)) (g : Nat) (cb : Array Value) (eg : ∀ args w, (callFunc g args).run P w = .ok (.enter g args) w) (blk off cap a m b : Nat) (d0 d : Array α) (w0 w : World)
    (hcmp : CmpLays P g cb enc k cf blk off d0.size w0) (R : RowK enc k w0 blk off d0) (hs : d0.size = d.size) (S : SWK enc k w0 blk off d w) (ham : a + 1 = m) (hmb : m < b) (hb : b ≤ d.size) (hsz : d.size < 1152921504606846976) (hr : SortedIn (ltOf cf) m b d) :
    Calls P 204 #[.slice (some ⟨blk, off, none⟩) d.size cap, .int .i64 a, .int .i64 m, .int .i64 b, .func (.func g) #[] cb] w fun e w' => e = .returned (.tuple #[]) ∧ ∃ dn, Mrg (ltOf cf) a b d dn ∧ SWK enc k w0 blk off dn w' := by
  have mixed := L.mixed; have t0 := L.t0; have a0 := L.a0; have z0 := L.z0; have v0 := L.v0; have t3 := L.t3; have a3 := L.a3; have z3 := L.z3; have v3 := L.v3; have t4 := L.t4; have a4 := L.a4; have z4 := L.z4; have v4 := L.v4; have tu := L.tu; have au := L.au; have zu := L.zu; have vu := L.vu; have t22 := L.t22; have a22 := L.a22; have z22 := L.z22; have v22 := L.v22; have t25 := L.t25; have a25 := L.a25; have z25 := L.z25; have v25 := L.v25; have aE := L.aE; have zE := L.zE
  have FG := L.g145
  have HC : Aside _ := hcmp
  have S0 : Aside (SWK enc k w0 blk off d w) := S
  have HR : Hid (SortedIn (ltOf cf) m b d) := hr
  have HO : Hid (SWO (ltOf cf)) := Lib.hid hO
  have q1 : (m : Int) - (a : Int) = 1 := by omega
  clear S L hcmp hr hO
  go_enter FG, Tryz.ntmps204
  go_wp2
  clear q1
  go_loopg [10, 11] (b - m) (fun kx s10 s11 wr => ∃ (i j : Nat), s10 = .int .i64 i ∧ s11 = .int .i64 j ∧ m ≤ i ∧ i ≤ j ∧ j ≤ b ∧ j - i ≤ kx ∧ Aside (SWK enc k w0 blk off d wr) ∧ Hid ((∀ x, m ≤ x → x < i → ltOf cf d[x]! d[a]! = true) ∧ (∀ x, j ≤ x → x < b → ltOf cf d[x]! d[a]! = false)))
  case atStart => exact ⟨m, b, rfl, rfl, by omega, by omega, by omega, by omega, S0, Lib.hid ⟨fun x _ _ => by omega, fun x _ _ => by omega⟩⟩
  case round =>
    clear S0
    obtain ⟨i, j, rfl, rfl, hmi, hij, hjb, hkx, S1, HX⟩ := hrel
    by_cases hlt : i < j
    · have hltz : (i : Int) < (j : Int) := by omega
      obtain ⟨h, hh⟩ : ∃ h, h = (i + j) / 2 := ⟨_, rfl⟩
      have hb1 : (i : Int) + (j : Int) < 4611686018427387904 := by omega
      have hb0 : 0 ≤ (i : Int) + (j : Int) := by omega
      have hhe : ((i : Int) + (j : Int)) / 2 = (h : Int) := by omega
      have hih : i ≤ h := by omega
      have hhj : h < j := by omega
      clear hh
      have hxs : h < d.size := by omega
      have hys : a < d.size := by omega
      cases hlv : ltOf cf d[h]! d[a]! with
      | true =>
        have HN : Hid (∀ x, m ≤ x → x < h + 1 → ltOf cf d[x]! d[a]! = true) := Lib.hid fun x h1 h2 => by
          by_cases e : x = h
          · subst e; exact hlv
          · have h3 : ltOf cf d[h]! d[x]! = false := HR.out x h h1 (by omega) (by omega)
            cases h4 : ltOf cf d[x]! d[a]! with
            | true => rfl
            | false => exact absurd (HO.out.ntrans _ _ _ h3 h4) (by rw [hlv]; simp)
        have ea : ((h : Nat) : Int).toNat = h := by omega
        have pa : (0 : Int) ≤ (h : Int) := by omega
        have ba : (h : Int) < (d.size : Int) := by omega
        have ec : ((a : Nat) : Int).toNat = a := by omega
        have pc : (0 : Int) ≤ (a : Int) := by omega
        have bc : (a : Int) < (d.size : Int) := by omega
        obtain ⟨vx, hvx⟩ : ∃ z, z = d[h]! := ⟨_, rfl⟩
        obtain ⟨vy, hvy⟩ : ∃ z, z = d[a]! := ⟨_, rfl⟩
        have la := S1.out.ld R (by omega) P h (by omega)
        have lb := S1.out.ld R (by omega) P a (by omega)
        rw [← hvx] at la
        rw [← hvy] at lb
        have hcm := S1.out.cmp HC.out (by omega) vx vy
        have hv : cf vx vy < 0 := by rw [hvx, hvy]; exact of_decide_eq_true hlv
        have hd : decide (cf vx vy < 0) = true := decide_eq_true hv
        clear hvx hvy
        go_wp2_with fail
        go_quiet_grown (first | (go_at_fn g; refine Calls.grown_of (hcm _ _)))
        have S2 : Aside (SWK enc k w0 blk off d (grow (wr.drewN nq) osq)) := S1.out.grown nq osq
        clear la lb hcm S1
        generalize grow (wr.drewN nq) osq = w2 at S2 ⊢
        clear nq osq
        go_wp2
        go_roundg (j - (h + 1))
        case measure => omega
        case rel => exact ⟨h + 1, j, by go_num, rfl, by omega, by omega, hjb, Nat.le_refl _, S2, Lib.hid ⟨HN.out, HX.out.2⟩⟩
      | false =>
        have HN : Hid (∀ x, h ≤ x → x < b → ltOf cf d[x]! d[a]! = false) := Lib.hid fun x h1 h2 => by
          by_cases e : x = h
          · subst e; exact hlv
          · have h3 : ltOf cf d[x]! d[h]! = false := HR.out h x (by omega) (by omega) h2
            exact HO.out.ntrans _ _ _ h3 hlv
        have ea : ((h : Nat) : Int).toNat = h := by omega
        have pa : (0 : Int) ≤ (h : Int) := by omega
        have ba : (h : Int) < (d.size : Int) := by omega
        have ec : ((a : Nat) : Int).toNat = a := by omega
        have pc : (0 : Int) ≤ (a : Int) := by omega
        have bc : (a : Int) < (d.size : Int) := by omega
        obtain ⟨vx, hvx⟩ : ∃ z, z = d[h]! := ⟨_, rfl⟩
        obtain ⟨vy, hvy⟩ : ∃ z, z = d[a]! := ⟨_, rfl⟩
        have la := S1.out.ld R (by omega) P h (by omega)
        have lb := S1.out.ld R (by omega) P a (by omega)
        rw [← hvx] at la
        rw [← hvy] at lb
        have hcm := S1.out.cmp HC.out (by omega) vx vy
        have hv : ¬ cf vx vy < 0 := by rw [hvx, hvy]; exact of_decide_eq_false hlv
        have hd : decide (cf vx vy < 0) = false := decide_eq_false hv
        clear hvx hvy
        go_wp2_with fail
        go_quiet_grown (first | (go_at_fn g; refine Calls.grown_of (hcm _ _)))
        have S2 : Aside (SWK enc k w0 blk off d (grow (wr.drewN nq) osq)) := S1.out.grown nq osq
        clear la lb hcm S1
        generalize grow (wr.drewN nq) osq = w2 at S2 ⊢
        clear nq osq
        go_wp2
        go_roundg (h - i)
        case measure => omega
        case rel => exact ⟨i, h, rfl, rfl, hmi, by omega, by omega, Nat.le_refl _, S2, Lib.hid ⟨HX.out.1, HN.out⟩⟩
    · have hltz : ¬ (i : Int) < (j : Int) := by omega
      have hje : j = i := by omega
      subst hje
      go_wp2
      go_loopg [13] (j - a) (fun kx s13 wr => ∃ (q : Nat) (dk : Array α), s13 = .int .i64 q ∧ a ≤ q ∧ q < j ∧ j - q ≤ kx ∧ dk.size = d.size ∧ Aside (SWK enc k w0 blk off dk wr) ∧ Hid (Rot a (a + 1) (q + 1) d dk))
      case atStart => exact ⟨a, d, rfl, by omega, by omega, by omega, rfl, S1, Lib.hid (Rot.one a d)⟩
      case round =>
        clear S1
        obtain ⟨q, dk, rfl, haq, hqj, hkq, hds, S1, HW⟩ := hrel
        have hj1 : 1 ≤ (j : Int) := by omega
        by_cases hqs : q + 1 < j
        · have hqz : (q : Int) < (j : Int) - 1 := by omega
          have hqz' : (q : Int) + 1 < (j : Int) := by omega
          go_wp2_with fail
          obtain ⟨y, hy⟩ : ∃ y, y = q + 1 := ⟨_, rfl⟩
          have HY := Lib.hid hy
          have wy : (q : Int) + 1 = (y : Int) := by omega
          have hxs : q < d.size := by omega
          have hys : y < d.size := by omega
          have ea : ((q : Int)).toNat = q := by omega
          have pa : (0 : Int) ≤ (q : Int) := by omega
          have ba : (q : Int) < (d.size : Int) := by omega
          have ec : ((y : Int)).toNat = y := by omega
          have pc : (0 : Int) ≤ (y : Int) := by omega
          have bc : (y : Int) < (d.size : Int) := by omega
          have wy2 : IntKind.i64.wrap ((q : Int) + 1) = (y : Int) := by rw [IntKind.wrap_i64]; omega
          have S2 : Aside (SWK enc k w0 blk off (swp dk q y) ((wr.drew.setCells blk (off + q * k) (enc dk[y]!)).setCells blk (off + y * k) (enc dk[q]!))) := S1.out.swapped R q y (by omega) (by omega)
          have l44a := S1.out.ld1 R (by omega) P q (by omega)
          have l44b := S1.out.ld1 R (by omega) P y (by omega)
          have s44a := S1.out.st1 R (by omega) P q (by omega) dk[y]!
          have s44b := S1.out.st2 R (by omega) P q y (by omega) (by omega) dk[y]! dk[q]!
          have n44a : (enc dk[q]!).length = k := R.hk _
          have n44b : (enc dk[y]!).length = k := R.hk _
          generalize enc dk[q]! = cI44 at S2 l44a s44b n44a
          generalize enc dk[y]! = cJ44 at S2 l44b s44a s44b n44b
          clear S1 hy
          go_big_region_o
          clear l44a l44b s44a s44b
          generalize (wr.drew.setCells blk (off + q * k) cJ44).setCells blk (off + y * k) cI44 = w2 at S2 ⊢
          clear wy wy2
          go_wp2
          go_roundg (j - (q + 1))
          case measure => omega
          case rel => exact ⟨q + 1, swp dk q y, by go_num, by omega, by omega, Nat.le_refl _, by rw [Go.Sort.size_swp]; exact hds, S2, by rw [HY.out]; exact Lib.hid (HW.out.up haq (by omega))⟩
        · have hqz : ¬ (q : Int) < (j : Int) - 1 := by omega
          have hqz' : ¬ (q : Int) + 1 < (j : Int) := by omega
          have hqe : q + 1 = j := by omega
          have hm : Mrg (ltOf cf) a b d dk := mrg_left HO.out (i := q + 1) HW.out (by omega) (by omega) hb (by rw [ham]; exact HR.out) (fun x h1 h2 => HX.out.1 x (by omega) (by omega)) (fun x h1 h2 => HX.out.2 x (by omega) h2)
          have HM := Lib.hid hm
          clear hm
          go_wp2
          (try simp only [Exit.inBlock, Exit.then]); refine bodyPost_ret (results_none rfl _ _ _) rfl ?_
          exact ⟨rfl, dk, HM.out, S1.out⟩
end
end Go.Proofs.YtngbjdaaogbjmaaGreat.Tr
