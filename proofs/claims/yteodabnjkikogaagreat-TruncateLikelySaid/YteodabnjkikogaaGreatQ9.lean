import Derived.WalkKit
import Derived.WalkSpells
import Derived.WalkLawsBesides
import Derived.Deep.QuietTactic
import Derived.BigQuiet
import Derived.Lib.Hide
import Derived.Shelf.Abstract
import Derived.Deep.RegionWith
import Derived.Laws.AppendOwnNone
import Derived.Lib.AppendZerosOnto
import Derived.Lib.SliceRun
import Derived.Lib.SlicesCompact
import Derived.Shelf.SlSortCmp.NoneTotal
import Derived.Maps.OwnOps
import Derived.Maps.OwnSet
import Derived.Maps.Views
import Derived.Deep.MidRow
import Derived.Deep.RegionHeld3
import Derived.Deep.AppendLies
import Derived.Deep.RegionLaw
import Derived.IntWalk
import Derived.StillTailTactics
import Derived.RegionTactic
import Derived.BigRegion
import Derived.ChangeAlike
import Derived.Sort.LotD2
import Derived.Sort.LotA
import Derived.Shelf.SlSortCmp.PdqK
import Derived.Deep.DeepCutAuto
import Derived.Lib.ItoaNum
import Derived.Deep.LoopGhost
import Derived.ProofKit
import Derived.OpenShut
import Derived.SizedLaws
import Derived.Lib.SmallJoins
import Derived.Deep.Slices
import Derived.Deep.Fields
import Derived.Deep.Strs
import Derived.Carry
import Derived.Lib.BitFns
import Derived.Deep.CutBlock
import Derived.Test.YteodabnjkikogaaGreatQ8
import Derived.Test.YteodabnjkikogaaGreatQ7
import Derived.Test.YteodabnjkikogaaGreatQ1
import Derived.Test.YteodabnjkikogaaGreatQ3
import Derived.Test.YteodabnjkikogaaGreatQ4
/-
  Walks over a program that is a variable: symMerge of slices.SortStableFunc at the rows of truncate, whole.
-/
namespace Go.Proofs.YteodabnjkikogaaGreat.Tr
open Go.Shelf Go.RowKit Go.Lib Go.Sort
section
variable {P : Program} {α : Type} [Inhabited α]
theorem Rot.right (a b : Nat) (d : Array α) : Rot a b b d d := ⟨permIn_refl _ _ _, fun x => (rot_right a b (atA d) x).symm⟩
theorem Mrg.triv {lt : α → α → Bool} {a b : Nat} {d : Array α} (h : SortedIn lt a b d) : Mrg lt a b d d := ⟨permIn_refl _ _ _, h⟩
/-- The search of symMerge: what is known in the range that is still open. -/
structure Srch (lt : α → α → Bool) (p s0 r0 s r : Nat) (d : Array α) : Prop where
  a : s0 ≤ s
  b : s ≤ r
  c : r ≤ r0
  lo : ∀ x, s0 ≤ x → x < s → lt d[p - x]! d[x]! = false
  hi : ∀ x, r ≤ x → x < r0 → lt d[p - x]! d[x]! = true
/-- The bounds of the range. -/
def Ends (a m b mid s0 r0 : Nat) : Prop := (mid < m ∧ s0 = mid + m - b ∧ r0 = mid) ∨ (m ≤ mid ∧ s0 = a ∧ r0 = m)
theorem Srch.up {lt : α → α → Bool} (hO : SWO lt) {a m b mid s0 r0 s r c : Nat} {d : Array α} (h : Srch lt (mid + m - 1) s0 r0 s r d) (he : Ends a m b mid s0 r0) (_ham : a < m) (hmb : m < b) (hmid : mid = (a + b) / 2) (hl : SortedIn lt a m d) (hr : SortedIn lt m b d) (h1 : s ≤ c) (h2 : c < r) (hv : lt d[mid + m - 1 - c]! d[c]! = false) : Srch lt (mid + m - 1) s0 r0 (c + 1) r d := by
  have ha := h.a; have hb := h.b; have hc := h.c
  refine ⟨by omega, by omega, hc, fun x hx1 hx2 => ?_, h.hi⟩
  have e1 : a ≤ x := by rcases he with he | he <;> omega
  have e2 : c < m := by rcases he with he | he <;> omega
  have e3 : m ≤ mid + m - 1 - c := by rcases he with he | he <;> omega
  have e4 : mid + m - 1 - x < b := by rcases he with he | he <;> omega
  exact le_trans' hO (le_trans' hO (sorted_le hO hl e1 (show x ≤ c by omega) e2) hv) (sorted_le hO hr e3 (show mid + m - 1 - c ≤ mid + m - 1 - x by omega) e4)
theorem Srch.down {lt : α → α → Bool} (hO : SWO lt) {a m b mid s0 r0 s r c : Nat} {d : Array α} (h : Srch lt (mid + m - 1) s0 r0 s r d) (he : Ends a m b mid s0 r0) (_ham : a < m) (hmb : m < b) (hmid : mid = (a + b) / 2) (hl : SortedIn lt a m d) (hr : SortedIn lt m b d) (h1 : s ≤ c) (h2 : c < r) (hv : lt d[mid + m - 1 - c]! d[c]! = true) : Srch lt (mid + m - 1) s0 r0 s c d := by
  have ha := h.a; have hb := h.b; have hc := h.c
  refine ⟨ha, h1, by omega, h.lo, fun x hx1 hx2 => ?_⟩
  have e1 : a ≤ c := by rcases he with he | he <;> omega
  have e2 : x < m := by rcases he with he | he <;> omega
  have e3 : m ≤ mid + m - 1 - x := by rcases he with he | he <;> omega
  have e4 : mid + m - 1 - c < b := by rcases he with he | he <;> omega
  cases hx : lt d[mid + m - 1 - x]! d[x]! with
  | true => rfl
  | false =>
    have := le_trans' hO (le_trans' hO (sorted_le hO hl e1 hx1 e2) hx) (sorted_le hO hr e3 (show mid + m - 1 - x ≤ mid + m - 1 - c by omega) e4)
    rw [this] at hv; cases hv
theorem Srch.cut {lt : α → α → Bool} {a m b mid s0 r0 s : Nat} {d : Array α} (h : Srch lt (mid + m - 1) s0 r0 s s d) (he : Ends a m b mid s0 r0) (ham : a < m) (hmb : m < b) (hmid : mid = (a + b) / 2) : Cutd lt a m b mid s d := by
  have ha := h.a; have hc := h.c
  refine ⟨by rcases he with he | he <;> omega, by rcases he with he | he <;> omega, by rcases he with he | he <;> omega, by rcases he with he | he <;> omega, by rcases he with he | he <;> omega, ?_, ?_⟩
  · by_cases e : s = s0
    · rcases he with he | he
      · exact .inl ⟨he.1, by omega⟩
      · exact .inr (.inl ⟨he.1, by omega⟩)
    · have := h.lo (s - 1) (by omega) (by omega)
      rw [show mid + m - 1 - (s - 1) = mid + m - s by rcases he with he | he <;> omega] at this
      exact .inr (.inr ⟨by rcases he with he | he <;> omega, by rcases he with he | he <;> omega, this⟩)
  · by_cases e : s = r0
    · rcases he with he | he
      · exact .inl ⟨he.1, by omega⟩
      · exact .inr (.inl ⟨he.1, by omega⟩)
    · have := h.hi s (Nat.le_refl _) (by omega)
      rw [show mid + m - 1 - s = mid + m - s - 1 by omega] at this
      exact .inr (.inr ⟨by rcases he with he | he <;> omega, by rcases he with he | he <;> omega, this⟩)
/-- The parts behind the turn are sorted. -/
theorem Rot.sorted {lt : α → α → Bool} {a m b mid s : Nat} {d d1 : Array α} (hR : Rot s m (mid + m - s) d d1) (hc : Cutd lt a m b mid s d) (hl : SortedIn lt a m d) (hr : SortedIn lt m b d) :
    SortedIn lt a s d1 ∧ SortedIn lt s mid d1 ∧ SortedIn lt mid (mid + m - s) d1 ∧ SortedIn lt (mid + m - s) b d1 := by
  obtain ⟨c1, c2, c3, c4, c5, _, _⟩ := hc
  refine ⟨fun i j hi hij hj => ?_, fun i j hi hij hj => ?_, fun i j hi hij hj => ?_, fun i j hi hij hj => ?_⟩ <;> rw [hR.2, hR.2] <;> unfold rotF atA
  · rw [if_neg (by omega), if_neg (by omega), if_neg (by omega), if_neg (by omega)]
    exact hl i j hi hij (by omega)
  · rw [if_pos (by omega), if_pos (by omega)]
    exact hr _ _ (by omega) (by omega) (by omega)
  · rw [if_neg (by omega), if_pos (by omega), if_neg (by omega), if_pos (by omega)]
    exact hl _ _ (by omega) (by omega) (by omega)
  · rw [if_neg (by omega), if_neg (by omega), if_neg (by omega), if_neg (by omega)]
    exact hr i j (by omega) hij hj
set_option maxHeartbeats 16000000 in
set_option maxRecDepth 1000000 in
theorem symMerge_o (k : Nat) (L : StL P k) (enc : α → List Value) (cf : α → α → Int) (hO : SWO (ltOf cf)) (g : Nat) (cb : Array Value) (eg : ∀ args w, (callFunc g args).run P w = .ok (.enter g args) w) (blk off cap : Nat) (d0 : Array α) (w0 : World)
    (hcmp : CmpLays P g cb enc k cf blk off d0.size w0) (R : RowK enc k w0 blk off d0) (hsz : d0.size < 1152921504606846976) : ∀ (N a m b : Nat) (d : Array α) (w : World), b - a ≤ N → d0.size = d.size → SWK enc k w0 blk off d w → a < m → m < b → b ≤ d.size → SortedIn (ltOf cf) a m d → SortedIn (ltOf cf) m b d →
    Calls P 200 #[.slice (some ⟨blk, off, none⟩) d0.size cap, .int .i64 a, .int .i64 m, .int .i64 b, .func (.func g) #[] cb] w fun e w' => e = .returned (.tuple #[]) ∧ ∃ dn, Mrg (ltOf cf) a b d dn ∧ SWK enc k w0 blk off dn w' := by
  intro N
  induction N with
  | zero => intro a m b d w h _ _ h1 h2; omega
  | succ N ih =>
    intro a m b d w hN hs S ham hmb hb hl hr
    by_cases c1 : a + 1 = m
    · have := symLeft_o k L enc cf hO g cb eg blk off cap a m b d0 d w0 w hcmp R hs S c1 hmb hb (by omega) hr
      rw [← hs] at this; exact this
    by_cases c2 : m + 1 = b
    · have := symRight_o k L enc cf hO g cb eg blk off cap a m b d0 d w0 w hcmp R hs S ham c1 c2 hb (by omega) hl
      rw [← hs] at this; exact this
    have mixed := L.mixed; have t0 := L.t0; have a0 := L.a0; have z0 := L.z0; have v0 := L.v0; have t3 := L.t3; have a3 := L.a3; have z3 := L.z3; have v3 := L.v3; have t4 := L.t4; have a4 := L.a4; have z4 := L.z4; have v4 := L.v4; have tu := L.tu; have au := L.au; have zu := L.zu; have vu := L.vu; have t22 := L.t22; have a22 := L.a22; have z22 := L.z22; have v22 := L.v22; have t25 := L.t25; have a25 := L.a25; have z25 := L.z25; have v25 := L.v25; have aE := L.aE; have zE := L.zE
    have FG := L.g145
    have e147 : ∀ args w, (callFunc 204 args).run P w = .ok (.enter 204 args) w := enters_of L.g147 (by kernel_rfl) rfl
    have e145 : ∀ args w, (callFunc 200 args).run P w = .ok (.enter 200 args) w := enters_of L.g145 (by kernel_rfl) rfl
    have HROT : Hid (∀ (a m b : Nat) (d : Array α) (w : World), d0.size = d.size → SWK enc k w0 blk off d w → a < m → m < b → b ≤ d.size →
      Calls P 204 #[.slice (some ⟨blk, off, none⟩) d0.size cap, .int .i64 a, .int .i64 m, .int .i64 b, .func (.func g) #[] cb] w fun e w' => e = .returned (.tuple #[]) ∧ ∃ dn, Rot a m b d dn ∧ SWK enc k w0 blk off dn w') :=
      Lib.hid fun a m b d w h1 h2 h3 h4 h5 => by
        have := rotate_o k L enc g cb blk off cap a m b d0 d w0 w R h1 h2 h3 h4 h5 (by omega)
        rw [← h1] at this; exact this
    have IH := Lib.hid ih
    have HC : Aside _ := hcmp
    have S0 : Aside (SWK enc k w0 blk off d w) := S
    have HL : Hid (SortedIn (ltOf cf) a m d) := hl
    have HR : Hid (SortedIn (ltOf cf) m b d) := hr
    have HO : Hid (SWO (ltOf cf)) := Lib.hid hO
    have hs1 : d.size ≤ d0.size := by omega
    have hs2 : d0.size ≤ d.size := by omega
    obtain ⟨mid, hmid⟩ : ∃ x, x = (a + b) / 2 := ⟨_, rfl⟩
    obtain ⟨nn, hnn⟩ : ∃ x, x = mid + m := ⟨_, rfl⟩
    obtain ⟨ma, hma⟩ : ∃ x, x = m - a := ⟨_, rfl⟩
    obtain ⟨bm, hbm⟩ : ∃ x, x = b - m := ⟨_, rfl⟩
    obtain ⟨s0, r0, hends⟩ : ∃ s0 r0, Ends a m b mid s0 r0 := by
      by_cases c : mid < m
      · exact ⟨_, _, .inl ⟨c, rfl, rfl⟩⟩
      · exact ⟨_, _, .inr ⟨by omega, rfl, rfl⟩⟩
    have HE : Hid (Ends a m b mid s0 r0) := hends
    have HMID : Hid (mid = (a + b) / 2) := hmid
    have HNN : Hid (nn = mid + m) := hnn
    have q1 : (m : Int) - (a : Int) = (ma : Int) := by omega
    have q1' : ((ma : Int) == 1) = false := by simp; omega
    have q2 : (b : Int) - (m : Int) = (bm : Int) := by omega
    have q2' : ((bm : Int) == 1) = false := by simp; omega
    have hmas : (ma : Int) < 1152921504606846976 := by omega
    have hbms : (bm : Int) < 1152921504606846976 := by omega
    have q3 : ((a : Int) + (b : Int)) / 2 = (mid : Int) := by omega
    have hab0 : 0 ≤ (a : Int) + (b : Int) := by omega
    have hab9 : (a : Int) + (b : Int) < 4611686018427387904 := by omega
    have q4 : (mid : Int) + (m : Int) = (nn : Int) := by omega
    have hnn9 : (nn : Int) < 4611686018427387904 := by omega
    obtain ⟨nb, hnb⟩ : ∃ x, x = nn - b := ⟨_, rfl⟩
    obtain ⟨p, hp⟩ : ∃ x, x = nn - 1 := ⟨_, rfl⟩
    have q6 : (nn : Int) - 1 = (p : Int) := by omega
    have hp9 : (p : Int) < 4611686018427387904 := by omega
    have HP : Hid (p = mid + m - 1) := by show _ = _; omega
    clear hends
    clear S hcmp hl hr hO hmid hnn hma hbm ih c1 c2 hp HE hs s0 r0
    obtain ⟨b0, hb0⟩ : ∃ x, decide (mid < m) = x := ⟨_, rfl⟩
    go_enter FG, Tryz.ntmps200
    go_upto_if 140 with fail
    have HB0 := Lib.hid hb0
    clear hb0
    go_cut [20, 21] from 141 to 146 (fun v20 v21 wx => ∃ s0 r0 : Nat, v20 = .int .i64 s0 ∧ v21 = .int .i64 r0 ∧ Hid (Ends a m b mid s0 r0) ∧ Aside (SWK enc k w0 blk off d wx))
    case first =>
      cases b0 with
      | true =>
        have c : mid < m := by have := of_decide_eq_true HB0.out; omega
        have q5 : (nn : Int) - (b : Int) = (nb : Int) := by have h1 := HNN.out; have h2 := HMID.out; omega
        have HE : Hid (Ends a m b mid nb mid) := Lib.hid (.inl ⟨c, by have h1 := HNN.out; omega, rfl⟩)
        clear hnb c
        go_wp2_with fail
        go_meet
        exact ⟨nb, mid, rfl, rfl, HE, S0⟩
      | false =>
        have c : ¬ mid < m := by have := of_decide_eq_false HB0.out; omega
        have HE : Hid (Ends a m b mid a m) := Lib.hid (.inr ⟨by omega, rfl, rfl⟩)
        clear hnb c
        go_wp2_with fail
        go_meet
        exact ⟨a, m, rfl, rfl, HE, S0⟩
    case rest => as_aux_lemma =>
      clear S0
      obtain ⟨s0, r0, rfl, rfl, HE, S0⟩ := hcut
      have hr0 : r0 ≤ m ∧ r0 ≤ mid ∧ a ≤ s0 ∧ s0 ≤ r0 ∧ nn - s0 ≤ b ∧ m ≤ nn - r0 := by have h1 := HNN.out; have h2 := HMID.out; rcases HE.out with h | h <;> omega
      obtain ⟨g1, g2, g3, g4, g5, g6⟩ := hr0
      have hS0 : Hid (∃ s0' r0', Ends a m b mid s0' r0' ∧ Srch (ltOf cf) (mid + m - 1) s0' r0' s0 r0 d) := Lib.hid ⟨s0, r0, HE.out, ⟨Nat.le_refl _, g4, Nat.le_refl _, fun x _ _ => by omega, fun x _ _ => by omega⟩⟩
      clear hnb HE
      go_wp2
      go_loopg [20, 21] (r0 - s0) (fun kx s20 s21 wr => ∃ (s r : Nat), s20 = .int .i64 s ∧ s21 = .int .i64 r ∧ a ≤ s ∧ s ≤ r ∧ r ≤ m ∧ r ≤ mid ∧ nn - s ≤ b ∧ m ≤ nn - r ∧ r - s ≤ kx ∧ Aside (SWK enc k w0 blk off d wr) ∧ Hid (∃ s0' r0', Ends a m b mid s0' r0' ∧ Srch (ltOf cf) (mid + m - 1) s0' r0' s r d))
      case atStart => exact ⟨s0, r0, rfl, rfl, g3, g4, g1, g2, g5, g6, Nat.le_refl _, S0, hS0⟩
      case round => as_aux_lemma =>
        clear S0 hS0
        obtain ⟨s, r, rfl, rfl, has, hsr, hrm, hrmid, hsb, hrn, hkx, S1, HX⟩ := hrel
        by_cases hlt : s < r
        · have hltz : (s : Int) < (r : Int) := by omega
          obtain ⟨c, hc⟩ : ∃ c, c = (s + r) / 2 := ⟨_, rfl⟩
          have hb1 : (s : Int) + (r : Int) < 4611686018427387904 := by omega
          have hb0 : 0 ≤ (s : Int) + (r : Int) := by omega
          have hce : ((s : Int) + (r : Int)) / 2 = (c : Int) := by omega
          have hsc : s ≤ c := by omega
          have hcr : c < r := by omega
          obtain ⟨y, hy⟩ : ∃ y, y = mid + m - 1 - c := ⟨_, rfl⟩
          have hyp : (p : Int) - (c : Int) = (y : Int) := by have := HP.out; omega
          have hy9 : (y : Int) < 4611686018427387904 := by omega
          have hyb : y < b := by have := HNN.out; omega
          have hcb : c < d.size := by omega
          have hyd : y < d.size := by omega
          have HYM := Lib.hid hy
          clear hc
          cases hlv : ltOf cf d[y]! d[c]! with
          | true => as_aux_lemma =>
            have HN : Hid (∃ s0' r0', Ends a m b mid s0' r0' ∧ Srch (ltOf cf) (mid + m - 1) s0' r0' s c d) := by
              obtain ⟨x0, x1, h1, h2⟩ := HX.out
              exact Lib.hid ⟨x0, x1, h1, h2.down HO.out h1 ham hmb HMID.out HL.out HR.out hsc hcr (by rw [← hy]; exact hlv)⟩
            have hcn : m ≤ nn - c := by have := HNN.out; omega
            clear hy
            have ea : ((y : Nat) : Int).toNat = y := by omega
            have pa : (0 : Int) ≤ (y : Int) := by omega
            have ba : (y : Int) < (d0.size : Int) := by omega
            have ec : ((c : Nat) : Int).toNat = c := by omega
            have pc : (0 : Int) ≤ (c : Int) := by omega
            have bc : (c : Int) < (d0.size : Int) := by omega
            obtain ⟨vx, hvx⟩ : ∃ z, z = d[y]! := ⟨_, rfl⟩
            obtain ⟨vy, hvy⟩ : ∃ z, z = d[c]! := ⟨_, rfl⟩
            have la := S1.out.ld R (by omega) P y (by omega)
            have lb := S1.out.ld R (by omega) P c (by omega)
            rw [← hvx] at la
            rw [← hvy] at lb
            have hcm := S1.out.cmp HC.out (by omega) vx vy
            have hv : cf vx vy < 0 := by rw [hvx, hvy]; exact of_decide_eq_true hlv
            have hd : decide (cf vx vy < 0) = true := decide_eq_true hv
            clear hvx hvy
            have hyw : IntKind.i64.wrap (y : Int) = (y : Int) := by rw [IntKind.wrap_i64]; omega
            go_wp2_with fail
            go_quiet_grown (first | (go_at_fn g; refine Calls.grown_of (hcm _ _)))
            have S2 : Aside (SWK enc k w0 blk off d (grow (wr.drewN nq) osq)) := S1.out.grown nq osq
            clear la lb hcm S1 hyw
            generalize grow (wr.drewN nq) osq = w2 at S2 ⊢
            clear nq osq
            go_wp2
            go_roundg (c - s)
            case measure => omega
            case rel => exact ⟨s, c, rfl, rfl, has, hsc, by omega, by omega, hsb, hcn, Nat.le_refl _, S2, HN⟩
          | false => as_aux_lemma =>
            have HN : Hid (∃ s0' r0', Ends a m b mid s0' r0' ∧ Srch (ltOf cf) (mid + m - 1) s0' r0' (c + 1) r d) := by
              obtain ⟨x0, x1, h1, h2⟩ := HX.out
              exact Lib.hid ⟨x0, x1, h1, h2.up HO.out h1 ham hmb HMID.out HL.out HR.out hsc hcr (by rw [← hy]; exact hlv)⟩
            clear hy
            have ea : ((y : Nat) : Int).toNat = y := by omega
            have pa : (0 : Int) ≤ (y : Int) := by omega
            have ba : (y : Int) < (d0.size : Int) := by omega
            have ec : ((c : Nat) : Int).toNat = c := by omega
            have pc : (0 : Int) ≤ (c : Int) := by omega
            have bc : (c : Int) < (d0.size : Int) := by omega
            obtain ⟨vx, hvx⟩ : ∃ z, z = d[y]! := ⟨_, rfl⟩
            obtain ⟨vy, hvy⟩ : ∃ z, z = d[c]! := ⟨_, rfl⟩
            have la := S1.out.ld R (by omega) P y (by omega)
            have lb := S1.out.ld R (by omega) P c (by omega)
            rw [← hvx] at la
            rw [← hvy] at lb
            have hcm := S1.out.cmp HC.out (by omega) vx vy
            have hv : ¬ cf vx vy < 0 := by rw [hvx, hvy]; exact of_decide_eq_false hlv
            have hd : decide (cf vx vy < 0) = false := decide_eq_false hv
            clear hvx hvy
            have hyw : IntKind.i64.wrap (y : Int) = (y : Int) := by rw [IntKind.wrap_i64]; omega
            go_wp2_with fail
            go_quiet_grown (first | (go_at_fn g; refine Calls.grown_of (hcm _ _)))
            have S2 : Aside (SWK enc k w0 blk off d (grow (wr.drewN nq) osq)) := S1.out.grown nq osq
            clear la lb hcm S1 hyw
            generalize grow (wr.drewN nq) osq = w2 at S2 ⊢
            clear nq osq
            go_wp2
            go_roundg (r - (c + 1))
            case measure => omega
            case rel => exact ⟨c + 1, r, by go_num, rfl, by omega, by omega, hrm, hrmid, by omega, hrn, Nat.le_refl _, S2, HN⟩
        · have hltz : ¬ (s : Int) < (r : Int) := by omega
          have hre : r = s := by omega
          subst hre
          have hcut : Cutd (ltOf cf) a m b mid r d := by
            obtain ⟨x0, x1, h1, h2⟩ := HX.out
            exact h2.cut h1 ham hmb HMID.out
          have HCUT : Hid (Cutd (ltOf cf) a m b mid r d) := hcut
          obtain ⟨e, he⟩ : ∃ e, e = nn - r := ⟨_, rfl⟩
          have q8 : (nn : Int) - (r : Int) = (e : Int) := by omega
          have he9 : (e : Int) < 4611686018427387904 := by omega
          have HEE : Hid (e = mid + m - r) := by show _ = _; have := HNN.out; omega
          have heb : e ≤ b := by omega
          have hme : m ≤ e := by omega
          have hmide : mid ≤ e := by have := HNN.out; omega
          have hamid : a < mid := by have := HMID.out; omega
          have hmidb : mid < b := by have := HMID.out; omega
          clear hcut he HX hltz
          go_upto_region 39 with fail
          obtain ⟨b1, hb1⟩ : ∃ x : Bool, x = decide (r < m ∧ m < e) := ⟨_, rfl⟩
          have HB1 := Lib.hid hb1
          clear hb1
          go_cut [185] (fun v wx => v = .bool b1 ∧ Aside (SWK enc k w0 blk off d wx))
          case first => as_aux_lemma =>
            by_cases h1 : r < m
            · have h1' : (r : Int) < (m : Int) := by omega
              by_cases h2 : m < e
              · have h2' : (m : Int) < (e : Int) := by omega
                have hb : b1 = true := by rw [HB1.out]; simp [h1, h2]
                subst hb
                go_wp2_with fail
                go_meet
                exact ⟨rfl, S1⟩
              · have h2' : ¬ (m : Int) < (e : Int) := by omega
                have hb : b1 = false := by rw [HB1.out]; simp [h2]
                subst hb
                go_wp2_with fail
                go_meet
                exact ⟨rfl, S1⟩
            · have h1' : ¬ (r : Int) < (m : Int) := by omega
              have hb : b1 = false := by rw [HB1.out]; simp [h1]
              subst hb
              go_wp2_with fail
              go_meet
              exact ⟨rfl, S1⟩
          case rest => as_aux_lemma =>
            clear S1
            obtain ⟨rfl, S1⟩ := hcut
            have hrot : Hid (Rot r m e d d ∨ b1 = true) := by
              rcases Nat.lt_or_ge r m with h1 | h1
              · rcases Nat.lt_or_ge m e with h2 | h2
                · exact Lib.hid (.inr (by rw [HB1.out]; simp [h1, h2]))
                · have : e = m := by omega
                  rw [this]; exact Lib.hid (.inl (Rot.right r m d))
              · have : r = m := by omega
                rw [this]; exact Lib.hid (.inl (Rot.none m e d))
            go_upto_if 185 with fail
            go_cut [] (fun wx => ∃ d1 : Array α, Aside (SWK enc k w0 blk off d1 wx) ∧ Hid (Rot r m e d d1))
            case first => as_aux_lemma =>
              cases b1 with
              | true =>
                have hc1 : r < m ∧ m < e := by have := HB1.out; simpa using this.symm
                have HCR := Lib.hid (HROT.out r m e d wc (by omega) S1.out hc1.1 hc1.2 (by omega))
                clear hc1
                go_wp2_with (go_at_fn 204; refine HCR.out.mono ?_; rintro e' w2 ⟨rfl, d1, hr1, hs1'⟩)
                go_meet
                exact ⟨d1, hs1', Lib.hid hr1⟩
              | false =>
                go_wp2_with fail
                go_meet
                exact ⟨d, S1, Lib.hid (by rcases hrot.out with h | h; exact h; cases h)⟩
            case rest => as_aux_lemma =>
              clear S1 HB1 hrot
              obtain ⟨d1, S1, HRT⟩ := hcut
              have hd1 : d1.size = d.size := HRT.out.1.1
              have hd1a : d1.size ≤ d.size := by omega
              have hd1b : d.size ≤ d1.size := by omega
              have hsorted := HRT.out
              rw [HEE.out] at hsorted
              have hsrt := Rot.sorted hsorted HCUT.out HL.out HR.out
              rw [← HEE.out] at hsrt
              have HSRT := Lib.hid hsrt
              clear hsorted hsrt hd1
              clear b1
              go_upto_region 41 with fail
              obtain ⟨b2, hb2⟩ : ∃ q : Bool, q = decide (a < r ∧ r < mid) := ⟨_, rfl⟩
              have HB := Lib.hid hb2
              clear hb2
              go_cut [199] (fun v wx => v = .bool b2 ∧ Aside (SWK enc k w0 blk off d1 wx))
              case first => as_aux_lemma =>
                by_cases h1 : a < r
                · have h1' : (a : Int) < (r : Int) := by omega
                  by_cases h2 : r < mid
                  · have h2' : (r : Int) < (mid : Int) := by omega
                    have hb : b2 = true := by rw [HB.out]; simp [h1, h2]
                    subst hb
                    go_wp2_with fail
                    go_meet
                    exact ⟨rfl, S1⟩
                  · have h2' : ¬ (r : Int) < (mid : Int) := by omega
                    have hb : b2 = false := by rw [HB.out]; simp [h2]
                    subst hb
                    go_wp2_with fail
                    go_meet
                    exact ⟨rfl, S1⟩
                · have h1' : ¬ (a : Int) < (r : Int) := by omega
                  have hb : b2 = false := by rw [HB.out]; simp [h1]
                  subst hb
                  go_wp2_with fail
                  go_meet
                  exact ⟨rfl, S1⟩
              case rest => as_aux_lemma =>
                clear S1
                obtain ⟨rfl, S1⟩ := hcut
                go_upto_if 199 with fail
                go_cut [] (fun wx => ∃ d2 : Array α, Aside (SWK enc k w0 blk off d2 wx) ∧ Hid (Mrg (ltOf cf) a mid d1 d2))
                case first => as_aux_lemma =>
                  cases b2 with
                  | true =>
                    have hc1 : a < r ∧ r < mid := by have := HB.out; simpa using this.symm
                    have HCR := Lib.hid (IH.out a r mid d1 wc (by omega) (by omega) S1.out hc1.1 hc1.2 (by omega) HSRT.out.1 HSRT.out.2.1)
                    clear hc1
                    go_wp2_with (go_at_fn 200; refine HCR.out.mono ?_; rintro e' w2 ⟨rfl, d2, hr1, hs1'⟩)
                    go_meet
                    exact ⟨d2, hs1', Lib.hid hr1⟩
                  | false =>
                    have HT : Hid (Mrg (ltOf cf) a mid d1 d1) := Lib.hid (Mrg.triv (by
                      have h0 := HB.out
                      have h1 : ¬ (a < r ∧ r < mid) := by simpa using h0.symm
                      rcases Nat.lt_or_ge a r with h2 | h2
                      · have h3 : r = mid := by omega
                        rw [← h3]; exact HSRT.out.1
                      · have h3 : r = a := by omega
                        have h4 := HSRT.out.2.1
                        rw [h3] at h4; exact h4))
                    go_wp2_with fail
                    go_meet
                    exact ⟨_, S1, HT⟩
                case rest => as_aux_lemma =>
                  clear S1 HB
                  obtain ⟨d2, S1, HM_d2⟩ := hcut
                  have hd2 : d2.size = d1.size := HM_d2.out.1.1
                  have hd2a : d2.size ≤ d1.size := by omega
                  have hd2b : d1.size ≤ d2.size := by omega
                  have HS2 : Hid (SortedIn (ltOf cf) mid e d2 ∧ SortedIn (ltOf cf) e b d2) := by
                    have hc := fun i (h1 : mid ≤ i) => HM_d2.out.1.2.1 i (.inr h1)
                    exact Lib.hid ⟨HSRT.out.2.2.1.congr fun i h1 _ => hc i h1, HSRT.out.2.2.2.congr fun i h1 _ => hc i (by omega)⟩
                  clear hd2 b2
                  go_upto_region 43 with fail
                  obtain ⟨b3, hb3⟩ : ∃ q : Bool, q = decide (mid < e ∧ e < b) := ⟨_, rfl⟩
                  have HB := Lib.hid hb3
                  clear hb3
                  go_cut [213] (fun v wx => v = .bool b3 ∧ Aside (SWK enc k w0 blk off d2 wx))
                  case first => as_aux_lemma =>
                    by_cases h1 : mid < e
                    · have h1' : (mid : Int) < (e : Int) := by omega
                      by_cases h2 : e < b
                      · have h2' : (e : Int) < (b : Int) := by omega
                        have hb : b3 = true := by rw [HB.out]; simp [h1, h2]
                        subst hb
                        go_wp2_with fail
                        go_meet
                        exact ⟨rfl, S1⟩
                      · have h2' : ¬ (e : Int) < (b : Int) := by omega
                        have hb : b3 = false := by rw [HB.out]; simp [h2]
                        subst hb
                        go_wp2_with fail
                        go_meet
                        exact ⟨rfl, S1⟩
                    · have h1' : ¬ (mid : Int) < (e : Int) := by omega
                      have hb : b3 = false := by rw [HB.out]; simp [h1]
                      subst hb
                      go_wp2_with fail
                      go_meet
                      exact ⟨rfl, S1⟩
                  case rest => as_aux_lemma =>
                    clear S1
                    obtain ⟨rfl, S1⟩ := hcut
                    have hf : Hid (∀ d3 : Array α, Mrg (ltOf cf) mid b d2 d3 → Mrg (ltOf cf) a b d d3) := Lib.hid fun d3 h3 => mrg_parts HO.out ham hmb HMID.out hb HL.out HR.out HCUT.out (by have h := HRT.out; rw [HEE.out] at h; exact h) HM_d2.out h3
                    cases b3 with
                    | true =>
                      have hc1 : mid < e ∧ e < b := by have := HB.out; simpa using this.symm
                      have HCR := Lib.hid (IH.out mid e b d2 wc (by omega) (by omega) S1.out hc1.1 hc1.2 (by omega) HS2.out.1 HS2.out.2)
                      clear hc1
                      go_wp2_with (go_at_fn 200; refine HCR.out.mono ?_; rintro e' w2 ⟨rfl, d3, hr1, hs1'⟩)
                      go_end0
                      exact ⟨rfl, d3, hf.out d3 hr1, hs1'⟩
                    | false =>
                      have HT : Hid (Mrg (ltOf cf) mid b d2 d2) := Lib.hid (Mrg.triv (by
                        have h0 := HB.out
                        have h1 : ¬ (mid < e ∧ e < b) := by simpa using h0.symm
                        rcases Nat.lt_or_ge mid e with h2 | h2
                        · have h3 : e = b := by omega
                          rw [← h3]; exact HS2.out.1
                        · have h3 : e = mid := by omega
                          have h4 := HS2.out.2
                          rw [h3] at h4; exact h4))
                      go_wp2_with fail
                      go_end0
                      exact ⟨rfl, d2, hf.out d2 HT.out, S1.out⟩

end
end Go.Proofs.YteodabnjkikogaaGreat.Tr

/-
  Walks: slices.SortStableFunc at the rows of truncate: the row behind it is a permutation, sorted.
-/
namespace Go.Proofs.YteodabnjkikogaaGreat.Tr
open Go.Shelf Go.RowKit Go.Lib Go.Sort

section
variable {α : Type} [Inhabited α] {lt : α → α → Bool}
theorem dvd_step {k x a : Nat} (h1 : k ∣ x) (h2 : k ∣ a) (h : x < a) : x + k ≤ a := by
  obtain ⟨u, rfl⟩ := h1
  obtain ⟨v, rfl⟩ := h2
  have : u < v := Nat.lt_of_mul_lt_mul_left h
  have := Nat.mul_le_mul_left k (show u + 1 ≤ v from this)
  rw [Nat.mul_add, Nat.mul_one] at this
  exact this
/-- Sorted in each block of k below a. -/
def Blks (lt : α → α → Bool) (k a : Nat) (d : Array α) : Prop := ∀ x, k ∣ x → x < a → SortedIn lt x (x + k) d
/-- Sorted in each block of k from a on. -/
def BlkF (lt : α → α → Bool) (k a n : Nat) (d : Array α) : Prop := ∀ x, k ∣ x → a ≤ x → SortedIn lt x (min (x + k) n) d
theorem Blks.step {k a : Nat} {d d' : Array α} (h : Blks lt k a d) (ha : k ∣ a) (hm : Mrg lt a (a + k) d d') : Blks lt k (a + k) d' := by
  intro x hx hxa
  by_cases e : x < a
  · have := dvd_step hx ha e
    exact (h x hx e).congr fun i _ h2 => hm.1.2.1 i (.inl (by omega))
  · have : x = a := by
      by_cases e2 : a < x
      · have := dvd_step ha hx e2; omega
      · omega
    subst this; exact hm.2
theorem Blks.last {k a n : Nat} {d d' : Array α} (h : Blks lt k a d) (ha : k ∣ a) (han : a ≤ n) (hn : n < a + k) (hm : Mrg lt a n d d') : BlkF lt k 0 n d' := by
  intro x hx _
  by_cases e : x < a
  · have := dvd_step hx ha e
    rw [Nat.min_eq_left (by omega)]
    exact (h x hx e).congr fun i _ h2 => hm.1.2.1 i (.inl (by omega))
  · by_cases e2 : a < x
    · have := dvd_step ha hx e2
      rw [Nat.min_eq_right (by omega)]
      exact fun i j h1 h2 h3 => by omega
    · have : x = a := by omega
      subst this
      rw [Nat.min_eq_right (by omega)]
      exact hm.2
theorem BlkF.step {k a n b : Nat} {d d' : Array α} (h : BlkF lt k a n d) (hab : a ≤ b) (hp : PermIn a b d d') : BlkF lt k b n d' := fun x hx hxb =>
  (h x hx (by omega)).congr fun i h1 _ => hp.2.1 i (.inr (by omega))
theorem insMrg (hO : SWO lt) (d : Array α) (a b : Nat) (hab : a ≤ b) (hb : b ≤ d.size) : Mrg lt a b d (Sort.insertionSort lt d a b) := by
  have h := insertionSort_holds hO d a b hab hb
  exact ⟨h.1, h.2⟩
end
def rowLays_ren : Go.Shelf.Ren := ⟨fun | 20 => 199 | n => n, fun | 24 => 103 | 22 => 99 | 3 => 3 | 25 => 152 | 4 => 4 | 0 => 0 | n => n, fun | n => n⟩
theorem rowLays : Go.Proofs.SlLaysF0.n20 Tryz.prog rowLays_ren := {
  mixed := by kernel_rfl
  f20 := ⟨Tryz.f199.name, by decide, Tryz.func199.trans (congrArg some (by kernel_rfl))⟩
  t0 := Tryz.underlying0
  a0 := Tryz.isAgg0
  z0 := Tryz.sizeOf0
  v0 := Tryz.zeroValue0
  t3 := Tryz.underlying3
  a3 := Tryz.isAgg3
  z3 := Tryz.sizeOf3
  v3 := Tryz.zeroValue3
  t4 := Tryz.underlying4
  a4 := Tryz.isAgg4
  z4 := Tryz.sizeOf4
  v4 := Tryz.zeroValue4
  t22 := Tryz.underlying99
  a22 := Tryz.isAgg99
  z22 := Tryz.sizeOf99
  v22 := Tryz.zeroValue99
  t25 := Tryz.underlying152
  a25 := Tryz.isAgg152
  z25 := Tryz.sizeOf152
  v25 := Tryz.zeroValue152 }
theorem cmpLaysR (blk off size : Nat) (w : World) : CmpLays Tryz.prog 127 #[] encR 3 cfR blk off size w := fun _ _ _ _ x y => leastCmp x y _
theorem rowK_of {blk off : Nat} {d : Array Nat} {w : World} (hH : HoldsK encR 3 w blk off d) (hb : blk < w.heap.size) : RowK encR 3 w blk off d where
  hk _ := rfl
  h1 x v hv := by simp [encR, rcells] at hv; rcases hv with rfl | rfl | rfl <;> rfl
  hH := hH
  hblk := hb
set_option maxHeartbeats 8000000 in
set_option maxRecDepth 1000000 in
theorem stable_any (blk off cap : Nat) (d : Array Nat) (w0 : World) (hH : HoldsK encR 3 w0 blk off d) (hblk : blk < w0.heap.size) (hsz : d.size ≤ 1000000000) :
    Calls Tryz.prog 179 #[.slice (some ⟨blk, off, none⟩) d.size cap, .int .i64 d.size, .func (.func 127) #[] #[]] w0 fun e w' => e = .returned (.tuple #[]) ∧ ∃ dn, Mrg (ltOf cfR) 0 d.size d dn ∧ SWK encR 3 w0 blk off dn w' := by
  have R := rowK_of hH hblk
  have eg : ∀ args w, (callFunc 127 args).run Tryz.prog w = .ok (.enter 127 args) w := enters_of Tryz.func127 (by kernel_rfl) rfl
  have HINS : Hid (∀ (a b : Nat) (dk : Array Nat) (w : World), dk.size = d.size → SWK encR 3 w0 blk off dk w → a ≤ b → b ≤ d.size →
      Calls Tryz.prog 199 #[.slice (some ⟨blk, off, none⟩) d.size cap, .int .i64 a, .int .i64 b, .func (.func 127) #[] #[]] w fun e w' => e = .returned (.tuple #[]) ∧ ∃ dn, Mrg (ltOf cfR) a b dk dn ∧ SWK encR 3 w0 blk off dn w') :=
    Lib.hid fun a b dk w h1 h2 h3 h4 => by
      have := AnyQ.insertionSortCmpFunc_w (P := Tryz.prog) rowLays 3 Tryz.isAgg103 Tryz.sizeOf103 encR cfR 127 #[] blk off cap a b d dk w0 w eg (cmpLaysR blk off d.size w0) R h1.symm h2 swoR h3 (by omega) (by omega)
      rw [h1] at this
      exact this.mono fun e w' ⟨he, hw⟩ => ⟨he, _, insMrg swoR dk a b h3 (by omega), hw⟩
  have HSYM : Hid (∀ (a m b : Nat) (dk : Array Nat) (w : World), dk.size = d.size → SWK encR 3 w0 blk off dk w → a < m → m < b → b ≤ d.size → SortedIn (ltOf cfR) a m dk → SortedIn (ltOf cfR) m b dk →
      Calls Tryz.prog 200 #[.slice (some ⟨blk, off, none⟩) d.size cap, .int .i64 a, .int .i64 m, .int .i64 b, .func (.func 127) #[] #[]] w fun e w' => e = .returned (.tuple #[]) ∧ ∃ dn, Mrg (ltOf cfR) a b dk dn ∧ SWK encR 3 w0 blk off dn w') :=
    Lib.hid fun a m b dk w h1 h2 h3 h4 h5 h6 h7 => symMerge_o 3 stL encR cfR swoR 127 #[] eg blk off cap d w0 (cmpLaysR blk off d.size w0) R (by omega) (b - a) a m b dk w (Nat.le_refl _) h1.symm h2 h3 h4 (by omega) h6 h7
  have S0 : Aside (SWK encR 3 w0 blk off d w0) := SWK.start hH
  have HH : Hid _ := R
  clear R hH eg
  obtain ⟨n, hn⟩ : ∃ n, n = d.size := ⟨_, rfl⟩
  have HN := Lib.hid hn
  rw [← hn] at HINS HSYM hsz ⊢
  clear hn
  go_enter Tryz.func179, Tryz.ntmps179
  go_wp2
  go_loopg [7, 8] (n + 20) (fun kx s7 s8 wr => ∃ (a : Nat) (dk : Array Nat), s7 = .int .i64 a ∧ s8 = .int .i64 (a + 20 : Nat) ∧ a ≤ n ∧ n + 20 - a ≤ kx ∧ Aside (SWK encR 3 w0 blk off dk wr) ∧ Hid (20 ∣ a ∧ PermIn 0 n d dk ∧ Blks (ltOf cfR) 20 a dk))
  case atStart => exact ⟨0, d, rfl, rfl, Nat.zero_le _, by omega, S0, Lib.hid ⟨⟨0, rfl⟩, permIn_refl _ _ _, fun x _ h => by omega⟩⟩
  case round =>
    clear S0
    obtain ⟨a, dk, rfl, rfl, han, hkx, S1, HW⟩ := hrel
    obtain ⟨b, hb⟩ : ∃ b, b = a + 20 := ⟨_, rfl⟩
    rw [← hb]
    have hds : dk.size = n := by rw [HW.out.2.1.1, HN.out]
    by_cases hlt : b ≤ n
    · have hltz : (b : Int) ≤ (n : Int) := by omega
      have HCI := Lib.hid (HINS.out a b dk wr (by have := HN.out; omega) S1.out (by omega) (by omega))
      have HB := Lib.hid hb
      have hb20 : (b : Int) + 20 < 4611686018427387904 := by omega
      have hba : a < b := by omega
      have hbk : n + 20 - b < n + 20 - a := by omega
      clear hb S1 hds
      go_wp2_with (go_at_call 199; refine HCI.out.mono ?_; rintro e w2 ⟨rfl, dn, hm, hs⟩)
      have hrel2 : Hid (20 ∣ b ∧ PermIn 0 n d dn ∧ Blks (ltOf cfR) 20 b dn) := by
        obtain ⟨h1, h2, h3⟩ := HW.out
        have hm' := hm
        rw [HB.out] at hm' ⊢
        exact Lib.hid ⟨Nat.dvd_add h1 (Nat.dvd_refl 20), permIn_trans _ _ _ _ _ h2 (permIn_mono _ _ _ _ _ _ (Nat.zero_le _) (by have := HB.out; omega) (by rw [h2.1, HN.out]; omega) hm'.1), h3.step h1 hm'⟩
      have S2 : Aside (SWK encR 3 w0 blk off dn w2) := hs
      clear hm hs HCI HW HB
      go_wp2
      go_roundg (n + 20 - b)
      case measure => omega
      case rel => exact ⟨b, dn, rfl, by go_num, hlt, Nat.le_refl _, S2, hrel2⟩
    · have hltz : ¬ (b : Int) ≤ (n : Int) := by omega
      have HCI := Lib.hid (HINS.out a n dk wr (by have := HN.out; omega) S1.out han (Nat.le_refl _))
      have HB := Lib.hid hb
      have hnb : n < a + 20 := by omega
      clear hb S1 hds
      go_wp2_with (go_at_call 199; refine HCI.out.mono ?_; rintro e w2 ⟨rfl, dn, hm, hs⟩)
      have hrel2 : Hid (PermIn 0 n d dn ∧ BlkF (ltOf cfR) 20 0 n dn) := by
        obtain ⟨h1, h2, h3⟩ := HW.out
        exact Lib.hid ⟨permIn_trans _ _ _ _ _ h2 (permIn_mono _ _ _ _ _ _ (Nat.zero_le _) (Nat.le_refl _) (by rw [h2.1, HN.out]; exact Nat.le_refl _) hm.1), h3.last h1 han hnb hm⟩
      have S2 : Aside (SWK encR 3 w0 blk off dn w2) := hs
      clear hm hs HCI HW HB
      go_wp2
      clear HINS
      go_loopg [6] n (fun kx s6 wr => ∃ (bs : Nat) (dk : Array Nat), s6 = .int .i64 bs ∧ 0 < bs ∧ bs ≤ 2000000000 ∧ n - bs ≤ kx ∧ Aside (SWK encR 3 w0 blk off dk wr) ∧ Hid (PermIn 0 n d dk ∧ BlkF (ltOf cfR) bs 0 n dk))
      case atStart => exact ⟨20, dn, rfl, by omega, by omega, by omega, S2, hrel2⟩
      case round =>
        clear S2 hrel2 hltz hnb hkx han
        obtain ⟨bs, dk2, rfl, hbs0, hbs9, hkx2, S3, HW⟩ := hrel
        by_cases hlt2 : bs < n
        · have hltz2 : (bs : Int) < (n : Int) := by omega
          obtain ⟨t, ht⟩ : ∃ t, t = 2 * bs := ⟨_, rfl⟩
          have q1 : 2 * (bs : Int) = (t : Int) := by omega
          have q2 : (bs : Int) * 2 = (t : Int) := by omega
          have ht9 : (t : Int) ≤ 2000000000 := by omega
          have HT := Lib.hid ht
          have hbst : bs < t := by omega
          clear ht
          go_wp2
          go_loopg [7, 8] (n + t) (fun kx s7 s8 wr => ∃ (a c : Nat) (dk : Array Nat), s7 = .int .i64 a ∧ s8 = .int .i64 c ∧ Hid (c = a + t) ∧ a ≤ n ∧ n + t - a ≤ kx ∧ Aside (SWK encR 3 w0 blk off dk wr) ∧ Hid (t ∣ a ∧ PermIn 0 n d dk ∧ Blks (ltOf cfR) t a dk ∧ BlkF (ltOf cfR) bs a n dk))
          case atStart => exact ⟨0, t, dk2, rfl, rfl, Lib.hid (by omega), Nat.zero_le _, by omega, S3, Lib.hid ⟨⟨0, rfl⟩, HW.out.1, fun x _ h => by omega, HW.out.2⟩⟩
          case round =>
            clear S3 HW
            obtain ⟨a2, c, dk3, rfl, rfl, HCA, han2, hkx3, S4, HW⟩ := hrel
            have hca := HCA.out
            obtain ⟨m, hm⟩ : ∃ m, m = a2 + bs := ⟨_, rfl⟩
            have q3 : (a2 : Int) + (bs : Int) = (m : Int) := by omega
            have hm9 : (m : Int) ≤ 4000000000 := by omega
            have hdsz : dk3.size = d.size := HW.out.2.1.1
            have hdsa : d.size = n := HN.out.symm
            have HDV : Hid (bs ∣ a2 ∧ bs ∣ m) := Lib.hid (by
              have h1 : bs ∣ a2 := Nat.dvd_trans ⟨2, by have := HT.out; omega⟩ HW.out.1
              exact ⟨h1, by rw [hm]; exact Nat.dvd_add h1 (Nat.dvd_refl bs)⟩)
            have HL : Hid (SortedIn (ltOf cfR) a2 (min m n) dk3) := Lib.hid (by rw [hm]; exact HW.out.2.2.2 a2 HDV.out.1 (Nat.le_refl _))
            have HR : Hid (SortedIn (ltOf cfR) m (min c n) dk3) := Lib.hid (by
              have h := HW.out.2.2.2 m HDV.out.2 (by omega)
              rw [show m + bs = c by have := HT.out; omega] at h; exact h)
            by_cases hlt3 : c ≤ n
            · have hltz3 : (c : Int) ≤ (n : Int) := by omega
              have hl2 : SortedIn (ltOf cfR) a2 m dk3 := by have h := HL.out; rw [Nat.min_eq_left (by omega)] at h; exact h
              have hr2 : SortedIn (ltOf cfR) m c dk3 := by have h := HR.out; rw [Nat.min_eq_left (by omega)] at h; exact h
              have HCS := Lib.hid (HSYM.out a2 m c dk3 wr (by omega) S4.out (by omega) (by have := HT.out; omega) hlt3 hl2 hr2)
              obtain ⟨c', hc'⟩ : ∃ c', c' = c + t := ⟨_, rfl⟩
              have q4 : (c : Int) + (t : Int) = (c' : Int) := by omega
              have hc9 : (c' : Int) ≤ 8000000000 := by omega
              have HCC : Hid (c' = c + t) := Lib.hid hc'
              have hac : a2 < c := by omega
              clear hm hl2 hr2 hc' hca S4 hdsz hdsa
              go_wp2_with (go_at_call 200; refine HCS.out.mono ?_; rintro e w3 ⟨rfl, d4, hmg, hs4⟩)
              have hrel4 : Hid (t ∣ c ∧ PermIn 0 n d d4 ∧ Blks (ltOf cfR) t c d4 ∧ BlkF (ltOf cfR) bs c n d4) := by
                obtain ⟨h1, h2, h3, h4⟩ := HW.out
                have hc := HCA.out
                refine Lib.hid ⟨by rw [hc]; exact Nat.dvd_add h1 (Nat.dvd_refl t), permIn_trans _ _ _ _ _ h2 (permIn_mono _ _ _ _ _ _ (Nat.zero_le _) hlt3 (by rw [h2.1, HN.out]; exact Nat.le_refl _) hmg.1), ?_, h4.step (by omega) hmg.1⟩
                rw [hc] at hmg ⊢
                exact h3.step h1 hmg
              have S5 : Aside (SWK encR 3 w0 blk off d4 w3) := hs4
              have hgo : n + t - c < n + t - a2 := by omega
              clear hmg hs4 HCS HW HCA HL HR HDV q3
              go_wp2
              go_roundg (n + t - c)
              case measure => omega
              case rel => exact ⟨c, c', d4, rfl, rfl, HCC, hlt3, Nat.le_refl _, S5, hrel4⟩
            · have hltz3 : ¬ (c : Int) ≤ (n : Int) := by omega
              by_cases hlt4 : m < n
              · have hltz4 : (m : Int) < (n : Int) := by omega
                have hl2 : SortedIn (ltOf cfR) a2 m dk3 := by have h := HL.out; rw [Nat.min_eq_left (by omega)] at h; exact h
                have hr2 : SortedIn (ltOf cfR) m n dk3 := by have h := HR.out; rw [Nat.min_eq_right (by omega)] at h; exact h
                have HCS := Lib.hid (HSYM.out a2 m n dk3 wr (by omega) S4.out (by omega) hlt4 (by omega) hl2 hr2)
                have hcn : n < a2 + t := by omega
                clear hm hl2 hr2 hca S4 hdsz hdsa
                go_wp2_with (go_at_call 200; refine HCS.out.mono ?_; rintro e w3 ⟨rfl, d4, hmg, hs4⟩)
                have hrel4 : Hid (PermIn 0 n d d4 ∧ BlkF (ltOf cfR) t 0 n d4) := by
                  obtain ⟨h1, h2, h3, h4⟩ := HW.out
                  exact Lib.hid ⟨permIn_trans _ _ _ _ _ h2 (permIn_mono _ _ _ _ _ _ (Nat.zero_le _) (Nat.le_refl _) (by rw [h2.1, HN.out]; exact Nat.le_refl _) hmg.1), h3.last h1 han2 hcn hmg⟩
                have S5 : Aside (SWK encR 3 w0 blk off d4 w3) := hs4
                have hgo : n - t < n - bs := by omega
                clear hmg hs4 HCS HW HCA HL HR HDV q3
                go_wp2
                go_roundg (n - t)
                case measure => omega
                case rel => exact ⟨t, d4, rfl, by omega, by omega, Nat.le_refl _, S5, hrel4⟩
              · have hltz4 : ¬ (m : Int) < (n : Int) := by omega
                have hcn : n < a2 + t := by omega
                have hrel4 : Hid (PermIn 0 n d dk3 ∧ BlkF (ltOf cfR) t 0 n dk3) := by
                  obtain ⟨h1, h2, h3, h4⟩ := HW.out
                  have hl2 : SortedIn (ltOf cfR) a2 n dk3 := by have h := HL.out; rw [Nat.min_eq_right (by omega)] at h; exact h
                  exact Lib.hid ⟨h2, h3.last h1 han2 hcn ⟨permIn_refl _ _ _, hl2⟩⟩
                have hgo : n - t < n - bs := by omega
                clear hm hca hdsz hdsa HW HCA HL HR HDV
                go_wp2
                go_roundg (n - t)
                case measure => omega
                case rel => exact ⟨t, dk3, rfl, by omega, by omega, Nat.le_refl _, S4, hrel4⟩
        · have hltz2 : ¬ (bs : Int) < (n : Int) := by omega
          have HF : Hid (Mrg (ltOf cfR) 0 n d dk2) := Lib.hid ⟨HW.out.1, by have h := HW.out.2 0 ⟨0, rfl⟩ (Nat.le_refl _); rw [Nat.min_eq_right (by omega)] at h; exact h⟩
          go_wp2
          go_end0
          exact ⟨rfl, dk2, HF.out, S3.out⟩
end Go.Proofs.YteodabnjkikogaaGreat.Tr

/-
  slices.SortStableFunc at the rows of truncate, in the words of V3.
-/
namespace Go.Proofs.YteodabnjkikogaaGreat.Tr
open Go.Shelf Go.RowKit Go.Lib Go.Sort

set_option maxRecDepth 100000 in
theorem stable_none (p : Option Addr) (cap : Nat) (fv : Value) (w : World) : Calls Tryz.prog 179 #[.slice p 0 cap, .int .i64 0, fv] w fun e w' => e = .returned (.tuple #[]) ∧ w = w' := by
  have HI : Hid (∀ W, Calls Tryz.prog 199 #[.slice p 0 cap, .int .i64 0, .int .i64 0, fv] W fun e w' => e = .returned (.tuple #[]) ∧ W = w') := Lib.hid fun W => (AnyF.insertionSortCmpFunc_none rowLays p cap fv W).mono fun _ _ h => ⟨h.1, h.2.symm⟩
  go_enter Tryz.func179, Tryz.ntmps179
  go_wp2
  refine wp_loop_rounds 1 ?_
  rw [rounds_succ]
  go_wp2_with (go_at_call 199; refine (HI.out _).mono ?_; rintro e w2 ⟨rfl, rfl⟩)
  refine wp_loop_rounds 1 ?_
  rw [rounds_succ]
  go_wp2
  go_end0
  exact ⟨rfl, rfl⟩
theorem flat_getE (L : List Nat) : ∀ i (h : i < L.length) j, j < 3 → (L.flatMap encR)[i * 3 + j]? = (encR L[i])[j]? := by
  induction L with
  | nil => intro i h; simp at h
  | cons c L ih =>
    intro i h j hj
    rw [List.flatMap_cons]
    cases i with
    | zero => rw [List.getElem?_append_left (by simp [encR, rcells]; omega)]; simp
    | succ i =>
      rw [List.getElem?_append_right (by simp [encR, rcells]; omega), show (encR c).length = 3 from rfl, show (i + 1) * 3 + j - 3 = i * 3 + j by omega]
      exact ih i (by simpa using h) j hj
theorem len_flatE (L : List Nat) : (L.flatMap encR).length = L.length * 3 := by
  induction L with
  | nil => rfl
  | cons c L ih => simp [encR, rcells, ih]; omega
theorem flatK_list (L : List Nat) : (flatK encR 3 L.toArray).toList = L.flatMap encR := by
  apply List.ext_getElem?
  intro t
  by_cases h : t < L.length * 3
  · have hi : t / 3 < L.length := by omega
    have e := flat_getE L (t / 3) hi (t % 3) (by omega)
    rw [show t / 3 * 3 + t % 3 = t by omega] at e
    rw [e]
    have e2 : (flatK encR 3 L.toArray)[t]! = (encR L.toArray[t / 3]!)[t % 3]! := get_flatK encR 3 L.toArray t (by simpa using h)
    have e3 : (flatK encR 3 L.toArray).toList[t]? = some (flatK encR 3 L.toArray)[t]! := by
      have hs : t < (flatK encR 3 L.toArray).size := by rw [size_flatK]; simpa using h
      rw [Array.getElem?_toList, Array.getElem?_eq_getElem hs, getElem!_pos _ t hs]
    rw [e3, e2]
    have e4 : L.toArray[t / 3]! = L[t / 3] := by rw [getElem!_pos _ _ (by simpa using hi)]; simp
    rw [e4]
    have h3 : t % 3 < (encR L[t / 3]).length := by show t % 3 < 3; omega
    rw [List.getElem?_eq_getElem h3, getElem!_pos (encR L[t / 3]) (t % 3) h3]
  · rw [List.getElem?_eq_none (by rw [Array.length_toList, size_flatK]; simp; omega), List.getElem?_eq_none (by rw [len_flatE]; omega)]
theorem flat_same {L : List Nat} (h : ∀ c ∈ L, RowLt 152 c) : L.flatMap encR = L.flatMap rcells := by
  induction L with
  | nil => rfl
  | cons c L ih =>
    rw [List.flatMap_cons, List.flatMap_cons, ih fun x hx => h x (List.mem_cons_of_mem _ hx)]
    unfold encR
    rw [lowR_of (h c (List.mem_cons_self ..))]
theorem sortRows_any (B : Nat) (v : Value) (L : List Nat) (w : World) (hv : OwnRws w B v L) (hB : B ≤ w.heap.size) :
    Calls Tryz.prog 179 #[v, .int .i64 L.length, .func (.func 127) #[] #[]] w fun e w' => e = .returned (.tuple #[]) ∧ ∃ M : List Nat, M.Perm L ∧ M.Pairwise (fun a b => pc a ≤ pc b) ∧ OwnRws w' B v M ∧ (Below B w w' ∧ ∀ k, k < w.heap.size → some k ≠ v.ownBlock → w'.heap[k]? = w.heap[k]?) := by
  obtain ⟨hv1, hv2, hv3⟩ := hv
  by_cases h0 : L = []
  · subst h0
    have hv4 := hv1
    obtain ⟨_, h2⟩ := hv1
    have : ∃ p c, v = .slice p 0 c := by
      rcases h2 with ⟨h2, _⟩ | ⟨g, cap, cur, h2, _⟩
      · exact ⟨_, _, h2⟩
      · exact ⟨_, cap, by simpa using h2⟩
    obtain ⟨p, c, rfl⟩ := this
    exact (stable_none p c _ w).mono fun e w' ⟨h3, h4⟩ => ⟨h3, [], .refl _, by simp, by subst h4; exact ⟨hv4, by simp, by simp⟩, by subst h4; exact ⟨Below.refl _ _, fun _ _ _ => rfl⟩⟩
  · obtain ⟨h1, h2⟩ := hv1
    rcases h2 with ⟨_, h2⟩ | ⟨g, cap, cur, rfl, hg, hh, hn, hcap, hsz, htk⟩
    · exact absurd (List.eq_nil_of_length_eq_zero h2) h0
    · have hH : HoldsK encR 3 w g 0 L.toArray := by
        intro j hj
        have hj' : j < L.length * 3 := by rw [size_flatK] at hj; simpa using hj
        refine ⟨?_, by simp [World.frozen?, hh]⟩
        have e1 : (cur.toList.take (L.length * 3))[j]? = (L.flatMap rcells)[j]? := by rw [htk]
        rw [List.getElem?_take_of_lt (by omega), ← flat_same hv3, ← flatK_list] at e1
        simp only [World.cell?, hh, Nat.zero_add]
        rw [show cur[j]? = cur.toList[j]? from by simp]
        simp only [Option.isSome_none, Bool.false_eq_true, if_false]
        rw [e1, Array.getElem?_toList, Array.getElem?_eq_getElem hj, getElem!_pos _ j hj]
        rfl
      have hS := stable_any g 0 cap L.toArray w hH (heap_lt hh) (by simp; omega)
      simp only [List.size_toArray] at hS
      refine hS.mono fun e w' ⟨h3, dn, hm, n, os, h4⟩ => ⟨h3, dn.toList, ?_⟩
      clear hS h3
      obtain ⟨⟨hp1, hp2, hp3⟩, hs⟩ := hm
      have hdn : dn.size = L.length := by simpa using hp1
      have hperm : dn.toList.Perm L := by
        have e1 : dn.extract 0 L.length = dn := by rw [← hdn]; simp
        have e2 : L.toArray.extract 0 L.length = L.toArray := by simp
        rw [e1, e2] at hp3
        simpa using hp3
      have hlt : ∀ c ∈ dn.toList, RowLt 152 c := fun c hc => hv3 c (hperm.mem_iff.1 hc)
      refine ⟨hperm, ?_, ?_, ?_⟩
      · rw [List.pairwise_iff_getElem]
        intro i j hi hj hij
        have hi' : i < dn.size := by simpa using hi
        have hj' : j < dn.size := by simpa using hj
        have h := hs i j (Nat.zero_le _) hij (by omega)
        rw [ltR] at h
        simp at h
        rw [getElem!_pos dn i hi', getElem!_pos dn j hj', lowR_of (hlt _ (by simp)), lowR_of (hlt _ (by simp))] at h
        simpa using h
      · subst h4
        have hg1 := heap_putRow (id : Value → Value) w n g 0 (flatK encR 3 dn) hh
        have hps := putCells_take (id : Value → Value) (flatK encR 3 dn) cur (L.length * 3) (by rw [size_flatK, hdn]) (by rw [hsz]; exact Nat.mul_le_mul_right 3 hn)
        refine ⟨⟨by rw [len_flat], .inr ⟨g, cap, putCells id 0 (flatK encR 3 dn) cur, by simp [hdn], hg, ?_, by simp [hdn]; exact hn, hcap, by rw [hps.1]; exact hsz, ?_⟩⟩, by simp; omega, hlt⟩
        · show (grow (putRow id (Sort.ahead w n) g 0 (flatK encR 3 dn)) os).heap[g]? = _
          rw [heap_grow_old _ _ (heap_lt hg1)]; exact hg1
        · have := hps.2
          rw [show dn.toList.length * 3 = L.length * 3 by simp [hdn], this, ← flat_same hlt]
          have e := flatK_list dn.toList
          simp only [Array.toArray_toList] at e
          rw [e]; simp
      · subst h4
        have hne : ∀ k, k < w.heap.size → k ≠ g → (grow (putRow id (Sort.ahead w n) g 0 (flatK encR 3 dn)) os).heap[k]? = w.heap[k]? := fun k hk hkg => by
          rw [heap_grow_old _ _ (by show k < (w.heap.modify g _).size; simp; omega)]
          exact heap_putRow_ne (id : Value → Value) w n g 0 k _ hkg
        refine ⟨⟨rfl, rfl, rfl, ?_, fun k hk => hne k (by omega) (by omega)⟩, fun k hk hkn => hne k hk fun e => hkn (by rw [e]; rfl)⟩
        show w.heap.size ≤ ((w.heap.modify g _) ++ os).size
        simp
set_option maxRecDepth 100000 in
theorem sortStable_any (B : Nat) (v : Value) (L : List Nat) (w : World) (hv : OwnRws w B v L) (hB : B ≤ w.heap.size) :
    Calls Tryz.prog 126 #[v, .func (.func 127) #[] #[]] w fun e w' => e = .returned (.tuple #[]) ∧ ∃ M : List Nat, M.Perm L ∧ M.Pairwise (fun a b => pc a ≤ pc b) ∧ OwnRws w' B v M ∧ (Below B w w' ∧ ∀ k, k < w.heap.size → some k ≠ v.ownBlock → w'.heap[k]? = w.heap[k]?) := by
  have HC := Lib.hid (sortRows_any B v L w hv hB)
  obtain ⟨a, c, rfl⟩ := hv.at.shape
  have hl := hv.2.1
  obtain ⟨n, hn⟩ : ∃ n, n = L.length := ⟨_, rfl⟩
  rw [← hn] at hl HC ⊢
  clear hv hn
  go_enter Tryz.func126, Tryz.ntmps126
  go_wp2_with (go_at_call 179; refine HC.out.mono ?_; rintro e w2 ⟨rfl, M, h1, h2, h3, h4⟩)
  go_end0
  exact ⟨rfl, M, h1, h2, h3, h4⟩
end Go.Proofs.YteodabnjkikogaaGreat.Tr

/-
  Walks: the cutter of truncate: settle.
-/
namespace Go.Proofs.YteodabnjkikogaaGreat.Tr
open Go.RowKit
variable {y0 y1 y2 y4 : Value}
theorem settle_any (gl bk B : Nat) (kk : Int) (M F : List Nat) (mv fv : Value) (W : World) (hrow : RowAt W gl 101 [y0, y1, y2, .func (.func 62) #[] #[.pointer (some ⟨bk, 0, none⟩)], y4, mv, fv]) (hM : RwsAt W mv M) (hl : M.length ≤ 4096)
    (hF : OwnInts W B fv (ofN F)) (hF1 : F.length ≤ 1024) (hFm : ∀ t ∈ F, Mk t) (hbk : W.cell? ⟨bk, 0, none⟩ = some (.int .i64 kk)) (hgB : gl < B) (hB : B ≤ W.heap.size) :
    Calls Tryz.prog 70 #[.pointer (some ⟨gl, 0, none⟩)] W fun e w' => SPost y0 y1 y2 (.func (.func 62) #[] #[.pointer (some ⟨bk, 0, none⟩)]) mv fv gl (overP kk) M F W e w' :=
  settle_try gl bk B kk M F mv fv W hrow hM hl hF hF1 hFm hbk hgB hB fun B v L w h h2 => sortStable_any B v L w h h2
end Go.Proofs.YteodabnjkikogaaGreat.Tr

/-
  Walks: truncate.settle, with ByProb's closure. Printed by conv_prob.py.
-/
namespace Go.Proofs.YteodabnjkikogaaGreat.Tr
open Go.RowKit
variable {y0 y1 y2 y3 y4 y6 : Value}

set_option maxRecDepth 100000 in
set_option maxHeartbeats 8000000 in
theorem settleP_try (gl bk bl B : Nat) (PP : Nat → Bool) (M F : List Nat) (mv fv : Value) (W : World) (hrow : RowAt W gl 101 [y0, y1, y2, .func (.func 34) #[] #[.pointer (some ⟨bk, 0, none⟩), .pointer (some ⟨bl, 0, none⟩)], y4, mv, fv]) (hM : RwsAt W mv M) (hl : M.length ≤ 4096)
    (hF : OwnInts W B fv (ofN F)) (hF1 : F.length ≤ 1024) (hFm : ∀ t ∈ F, Mk t) (hov : ∀ (W' : World), Kept W W' → ∀ e : Nat, Mk e → Calls Tryz.prog 34 #[.int .i64 e, .pointer (some ⟨bk, 0, none⟩), .pointer (some ⟨bl, 0, none⟩)] W' fun e' w' => e' = .returned (.bool (PP e)) ∧ Kept W' w') (hgB : gl < B) (hB : B ≤ W.heap.size)
    (hsort : ∀ (B : Nat) (v : Value) (L : List Nat) (w : World), OwnRws w B v L → B ≤ w.heap.size → Calls Tryz.prog 126 #[v, .func (.func 127) #[] #[]] w fun e w' => e = .returned (.tuple #[]) ∧ ∃ M : List Nat, M.Perm L ∧ M.Pairwise (fun a b => pc a ≤ pc b) ∧ OwnRws w' B v M ∧ (Below B w w' ∧ ∀ k, k < w.heap.size → some k ≠ v.ownBlock → w'.heap[k]? = w.heap[k]?)) :
    Calls Tryz.prog 70 #[.pointer (some ⟨gl, 0, none⟩)] W fun e w' => SPost y0 y1 y2 (.func (.func 34) #[] #[.pointer (some ⟨bk, 0, none⟩), .pointer (some ⟨bl, 0, none⟩)]) mv fv gl PP M F W e w' := by
  have HSORT := Lib.hid hsort
  have HF := Lib.hid hF
  have HFM := Lib.hid (And.intro hF1 hFm)
  have eg2 : ∀ args w, (callFunc 130 args).run Tryz.prog w = .ok (.enter 130 args) w := enters_of Tryz.func130 (by kernel_rfl) rfl
  have EG2 := Lib.hid eg2
  have hgl : gl < W.heap.size := hrow.lt
  clear hsort hF hF1 hFm eg2
  have HROW := Lib.hid hrow
  have HM := Lib.hid hM
  have c3 := hrow.cell (i := 3) (by simp)
  have c5 := hrow.cell (i := 5) (by simp)
  simp only [List.getElem_cons_succ, List.getElem_cons_zero] at c3 c5
  obtain ⟨ma, mc, hmv⟩ := hM.shape
  obtain ⟨n, hn⟩ : ∃ n, n = M.length := ⟨_, rfl⟩
  rw [← hn] at hmv hl
  subst hmv
  have HN := Lib.hid hn
  have HOV := Lib.hid (fun (e : Nat) (W' : World) (hk : Kept W W') (he : Mk e) => hov W' hk e he)
  clear hrow hM hn hov
  go_enter Tryz.func70, Tryz.ntmps70
  go_wp2
  go_loopg [3, 4, 14] n (fun kx s3 s4 s14 wr => ∃ (k : Nat) (vi vg : Value), s3 = vi ∧ s4 = vg ∧ s14 = .int .i64 k ∧ k ≤ n ∧ n - k ≤ kx ∧ Hid (OwnRws wr W.heap.size vi (inTo PP M k)) ∧ Hid (OwnInts wr W.heap.size vg (ofN (goneTo PP M k))) ∧ Hid (Kept W wr))
  case atStart => exact ⟨0, _, _, rfl, rfl, rfl, Nat.zero_le _, by omega, Lib.hid (by unfold inTo; simpa using OwnRws.nil _ _), Lib.hid (by unfold goneTo; simpa [ofN] using OwnInts.nil _ _), Lib.hid (Kept.refl _)⟩
  case round =>
    obtain ⟨k, vi, vg, rfl, rfl, rfl, hk, hkx, HI, HG, HK⟩ := hrel
    obtain ⟨ia, ic, hvi⟩ := HI.out.at.shape
    obtain ⟨iN, hiN⟩ : ∃ m, m = (inTo PP M k).length := ⟨_, rfl⟩
    rw [← hiN] at hvi
    subst hvi
    have HIN := Lib.hid hiN
    clear hiN
    obtain ⟨ga, gn, gc, rfl⟩ := HG.out.ints.shape
    have d3 := HK.out.cell c3
    have hszr := HK.out.size
    by_cases hlt : k < n
    · have hkl : k < M.length := by have := HN.out; omega
      obtain ⟨b, o, rfl, hrg⟩ := (HM.out.kept HK.out).get k hkl
      have hrl := HM.out.lt M[k] (List.getElem_mem _)
      have hi1 := inTo_succ PP M k hkl
      have hg1 := goneTo_succ PP M k hkl
      have hil := inTo_len PP M k
      have hgl := goneTo_len PP M k
      obtain ⟨r, hr⟩ : ∃ r, r = M[k] := ⟨_, rfl⟩
      rw [← hr] at hrg hrl hi1 hg1
      have HOV1 : Hid (∀ W', Kept wr W' → Calls Tryz.prog 34 #[.int .i64 (evW r), .pointer (some ⟨bk, 0, none⟩), .pointer (some ⟨bl, 0, none⟩)] W' fun e w' => e = .returned (.bool (PP (evW r))) ∧ Kept W' w') := Lib.hid fun W' hk => HOV.out _ W' (HK.out.trans hk) (evW_lt r)
      have HRG : Hid (wr.rangeAt b (o + k * 3) [.int .i64 (evW r), .int .u64 (loW r), .int .u64 (hiW r)]) := Lib.hid hrg
      have HRC : Hid (rcells r = [.int .i64 (evW r), .int .u64 (loW r), .int .u64 (hiW r)]) := Lib.hid rfl
      have HRL := Lib.hid hrl
      have HI1 := Lib.hid hi1
      have HG1 := Lib.hid hg1
      have HIL : Hid ((inTo PP M k).length ≤ 4096 ∧ (goneTo PP M k).length ≤ 4096) := Lib.hid (by rw [← HN.out] at hil hgl; omega)
      have hkn : (k : Int) < (n : Int) := by omega
      generalize evW r = x0 at *
      generalize loW r = x1 at *
      generalize hiW r = x2 at *
      clear hrg hrl hi1 hg1 hil hgl hr
      obtain ⟨bp, hbp⟩ : ∃ bp, bp = PP x0 := ⟨_, rfl⟩
      rw [← hbp] at HOV1 HI1 HG1
      clear hbp
      go_wp2_with (with_reducible refine wpList_load_mid rfl 103 _ rfl b (o + k * 3) rfl _ _ HRG.out Tryz.underlying103 rfl (by kernel_rfl) ?_)
      go_cut [24] (fun p24 wx => p24 = .bool bp ∧ Hid (Kept wr wx) ∧ wx.cell? ⟨wr.heap.size, 0, none⟩ = some (.int .i64 x0) ∧ wx.cell? ⟨wr.heap.size, 1, none⟩ = some (.int .u64 x1) ∧ wx.cell? ⟨wr.heap.size, 2, none⟩ = some (.int .u64 x2))
      case first =>
        have e3 := (((Kept.refl wr).alloc (.cells #[.int .i64 x0, .int .u64 x1, .int .u64 x2] 103)).drew).cell d3
        go_region_with (go_at_call 34; (with_reducible refine (HOV1.out _ (((Kept.refl wr).alloc _).drew)).mono ?_); rintro e w3 ⟨rfl, hk3⟩)
        all_goals (go_wp2_with fail; go_meet)
        all_goals exact ⟨rfl, Lib.hid ((((Kept.refl wr).alloc _).drew).trans hk3), hk3.cell ((Kept.refl _).drew.cell (by simp)), hk3.cell ((Kept.refl _).drew.cell (by simp)), hk3.cell ((Kept.refl _).drew.cell (by simp))⟩
      case rest =>
        obtain ⟨rfl, HKX, q0, q1, q2⟩ := hcut
        have hszx := HKX.out.size
        clear d3 HOV1
        cases bp with
        | true =>
          go_wp2_with (at_builtin; refine app_int rfl _ _ rfl W.heap.size _ (ofN (goneTo PP M k)) rfl (HG.out.kept (HKX.out.alloc _)) _ (x0 : Int) rfl (by simp) (by have := HIL.out; simp [ofN]; omega) (by simp; omega) ?_; intro v7 w7 hown7 hg7 hb7; have O7 := Lib.hid hown7; have HB7 := Lib.hid hb7; have HG7 := Lib.hid hg7; clear hown7 hb7 hg7)
          go_roundg (n - (k + 1))
          case measure => omega
          case rel =>
            refine ⟨k + 1, _, _, rfl, rfl, by go_num, by omega, Nat.le_refl _, Lib.hid ?_, Lib.hid ?_, Lib.hid (Below.trans ((HK.out.trans HKX.out).alloc _) HB7.out)⟩
            · have e := HI1.out; simp at e; rw [e]
              exact (HI.out.kept (HKX.out.alloc _)).tag (HG.out.kept (HKX.out.alloc _)).1 (by decide) HG7.out
            · have e := HG1.out; simp at e; rw [e]
              have := O7.out
              simpa [ofN] using this
        | false =>
          go_wp2_with ((at_builtin; refine app_row1 rfl _ _ rfl W.heap.size _ (inTo PP M k) rfl (HI.out.kept (HKX.out.alloc _)) wc.heap.size r rfl (by rw [HRC.out]; exact range_row _ _ _ _ _) HRL.out (by have := HIL.out; omega) (by simp; omega) ?_; intro v7 w7 hown7 hg7 hb7; have O7 := Lib.hid hown7; have HB7 := Lib.hid hb7; have HG7 := Lib.hid hg7; clear hown7 hb7 hg7))
          go_roundg (n - (k + 1))
          case measure => omega
          case rel =>
            refine ⟨k + 1, _, _, rfl, rfl, by go_num, by omega, Nat.le_refl _, Lib.hid ?_, Lib.hid ?_, Lib.hid (Below.trans ((HK.out.trans HKX.out).alloc _) HB7.out)⟩
            · have e := HI1.out; simp at e; rw [e]
              exact O7.out
            · have e := HG1.out; simp at e; rw [e]
              exact ints_tag (HG.out.kept (HKX.out.alloc _)) (HI.out.kept (HKX.out.alloc _)).1 (by decide) HG7.out
    · have hke : k = n := by omega
      have HI1 : Hid (OwnRws wr W.heap.size (.slice ia iN ic) (M.filter fun r => !PP (evW r))) := Lib.hid (by have h := HI.out; unfold inTo at h; rw [hke, HN.out, List.take_length] at h; exact h)
      have HG1 : Hid (OwnInts wr W.heap.size (.slice ga gn gc) (ofN ((M.filter fun r => PP (evW r)).map evW))) := Lib.hid (by have h := HG.out; unfold goneTo at h; rw [hke, HN.out, List.take_length] at h; exact h)
      clear HI HG hke
      obtain ⟨L1, hL1⟩ : ∃ L1, L1 = M.filter fun r => !PP (evW r) := ⟨_, rfl⟩
      rw [← hL1] at HI1
      obtain ⟨G1, hG1⟩ : ∃ G1, G1 = (M.filter fun r => PP (evW r)).map evW := ⟨_, rfl⟩
      rw [← hG1] at HG1
      have HL1 := Lib.hid hL1
      have HGG := Lib.hid hG1
      have HS := Lib.hid (HSORT.out W.heap.size _ L1 wr HI1.out hszr)
      clear hL1 hG1 d3
      go_wp2_with fail
      refine HS.out.mono ?_
      rintro e w2 ⟨rfl, L2, hperm, hpair, ho2, hb2, hne2⟩
      have hg2 := sort_ints HG1.out HI1.out hne2
      have HG2 := Lib.hid hg2
      clear hne2 hg2
      have hk2 : Kept W w2 := HK.out.app hb2
      have HK2 := Lib.hid hk2
      have HPM : Hid (L2.Perm L1 ∧ L2.Pairwise (fun a b => pc a ≤ pc b)) := ⟨hperm, hpair⟩
      have HO2 := Lib.hid ho2
      have HB2 := Lib.hid hb2
      have hr2 := HROW.out.kept hk2
      have HR2 := Lib.hid hr2
      have f4 := hr2.free 4
      have d4 := hr2.cell (i := 4) (by simp)
      simp only [List.getElem_cons_succ, List.getElem_cons_zero] at d4
      clear hperm hpair ho2 hb2 hk2 hr2
      go_wp2
      obtain ⟨w3, hw3⟩ : ∃ w3, w3 = w2.setCell ⟨gl, 4, none⟩ (.slice none 0 0) := ⟨_, rfl⟩
      rw [← hw3]
      have HF3 : Hid (Frm gl (.slice none 0 0) (.slice none 0 0) W w3) := Lib.hid (by rw [hw3]; exact frm_store HK2.out 4 _)
      have HR3 : Hid (RowAt w3 gl 101 [y0, y1, y2, .func (.func 34) #[] #[.pointer (some ⟨bk, 0, none⟩), .pointer (some ⟨bl, 0, none⟩)], .slice none 0 0, .slice ma n mc, fv]) := Lib.hid (by rw [hw3]; have := HR2.out.store 4 (.slice none 0 0); simpa using this)
      have HO3 : Hid (OwnRws w3 W.heap.size (.slice ia iN ic) L2) := Lib.hid (by rw [hw3]; exact rws_frm HO2.out hgl (frm_store (Kept.refl _) 4 _))
      have HG3 : Hid (OwnInts w3 W.heap.size (.slice ga gn gc) (ofN G1)) := Lib.hid (by rw [hw3]; exact ints_frm HG2.out hgl (frm_store (Kept.refl _) 4 _))
      have HV3 : Hid (OwnInts w3 B fv (ofN F)) := Lib.hid (ints_frm HF.out hgB HF3.out)
      have hsz3 := HF3.out.size
      clear hw3 HI1 HG1 HR2 HO2 HB2 HG2 HK2 HK f4 d4
      have hL2 : L2.length = iN := by have := HO3.out.at; obtain ⟨_, _, h, _⟩ := this; injection h with _ h _; exact h.symm
      have HL2 := Lib.hid hL2
      clear hL2
      go_loopg [42] iN (fun kx s42 wq => ∃ (j : Nat) (vo : Value), s42 = .int .i64 j ∧ j ≤ iN ∧ iN - j ≤ kx ∧ Hid (CutR y0 y1 y2 (.func (.func 34) #[] #[.pointer (some ⟨bk, 0, none⟩), .pointer (some ⟨bl, 0, none⟩)]) (.slice ma n mc) fv wq gl w3.heap.size vo (minN (L2.take j))) ∧ Hid (Frm gl (.slice none 0 0) vo w3 wq))
      case atStart => exact ⟨0, _, rfl, Nat.zero_le _, by omega, Lib.hid ⟨HR3.out, OwnRws.nil _ _⟩, Lib.hid (Frm.of_kept (Kept.refl _))⟩
      case round =>
        obtain ⟨j, vo, rfl, hj, hjx, HC2, HFQ⟩ := hrel
        have hszq := HFQ.out.size
        obtain ⟨ao, co, hvo⟩ := HC2.out.2.at.shape
        obtain ⟨mo, hmo⟩ : ∃ mo, mo = (minN (L2.take j)).length := ⟨_, rfl⟩
        rw [← hmo] at hvo
        subst hvo
        by_cases hlt2 : j < iN
        · have hjl : j < L2.length := by have := HL2.out; omega
          have hmo9 : mo ≤ j := by rw [hmo]; refine Nat.le_trans (len_minN _ []) ?_; simp; omega
          obtain ⟨b, o, rfl, hrg⟩ := (rws_frm HO3.out hgl HFQ.out).at.get j hjl
          have hxl := HO3.out.2.2 L2[j] (List.getElem_mem _)
          have hstep := minN_take L2 j hjl
          have hin : iN ≤ 4096 := by rw [← HL2.out, HPM.out.1.length_eq, HL1.out]; exact Nat.le_trans (List.length_filter_le ..) (by rw [← HN.out]; exact hl)
          obtain ⟨x, hxx⟩ : ∃ x, x = L2[j] := ⟨_, rfl⟩
          rw [← hxx] at hrg hxl hstep
          obtain ⟨out, hout⟩ : ∃ out, out = minN (L2.take j) := ⟨_, rfl⟩
          rw [← hout] at hstep HC2 hmo
          have HST := Lib.hid hstep
          have HXL := Lib.hid hxl
          have d4 := HC2.out.1.cell (i := 4) (by simp)
          simp only [List.getElem_cons_succ, List.getElem_cons_zero] at d4
          have hglq := HC2.out.1.lt
          have HNE := Lib.hid (list_apart HC2.out.2 HC2.out.1)
          have HHAS : Hid (∀ W, Kept wr W → W.cell? ⟨wr.heap.size, 0, none⟩ = some (.int .i64 (evW x)) → W.cell? ⟨wr.heap.size, 1, none⟩ = some (.int .u64 (loW x)) → W.cell? ⟨wr.heap.size, 2, none⟩ = some (.int .u64 (hiW x)) →
            Calls Tryz.prog 129 #[.slice ao mo co, .func (.func 130) #[] #[.pointer (some ⟨wr.heap.size, 0, none⟩)]] W fun e w' => e = .returned (.bool (out.any fun t => subN t x)) ∧ Kept W w') := Lib.hid fun W hk h0 h1 h2 =>
              hasR_any 130 #[.pointer (some ⟨wr.heap.size, 0, none⟩)] EG2.out (fun t => subN t x) _ out W (decides_part x wr.heap.size W hxl h0 h1 h2) ((HC2.out.2.kept hk).at)
          have HRC : Hid (rcells x = [.int .i64 (evW x), .int .u64 (loW x), .int .u64 (hiW x)]) := rfl
          unfold rcells at hrg
          generalize evW x = z0 at *
          generalize loW x = z1 at *
          generalize hiW x = z2 at *
          have HRG := Lib.hid hrg
          have HMO := Lib.hid hmo
          have HXX := Lib.hid hxx
          have hkn : (j : Int) < (iN : Int) := by omega
          clear hrg hxl hstep hxx hout hmo
          cases hq : out.any (fun t => subN t x) with
          | true =>
            have HQ := Lib.hid hq
            rw [hq] at HHAS
            clear hq
            go_wp2_with (first | (with_reducible refine wpList_load_mid rfl 103 _ rfl b (o + j * 3) rfl _ _ HRG.out Tryz.underlying103 rfl (by kernel_rfl) ?_) | (go_at_call 129; refine (HHAS.out _ ((Kept.refl _).alloc _) (by simp) (by simp) (by simp)).mono ?_; rintro e w4 ⟨rfl, hk4⟩))
            go_roundg (iN - (j + 1))
            case measure => omega
            case rel =>
              have hk5 : Kept wr w4 := ((Kept.refl _).alloc _).trans hk4
              exact ⟨j + 1, _, by go_num, by omega, Nat.le_refl _, Lib.hid (by rw [HST.out, keepN, HQ.out]; exact ⟨HC2.out.1.kept hk5, HC2.out.2.kept hk5⟩), Lib.hid (HFQ.out.trans (Frm.of_kept hk5))⟩
          | false =>
            have HQ := Lib.hid hq
            rw [hq] at HHAS
            clear hq
            obtain ⟨i0, hi0, hz0, hz1, hz2⟩ := info_parts info_trow
            have I0 := Lib.hid hi0
            have I1 := Lib.hid hz0
            have I2 := Lib.hid hz1
            have I3 := Lib.hid hz2
            clear hi0 hz0 hz1 hz2
            go_wp2_with (first | (with_reducible refine wpList_load_mid rfl 103 _ rfl b (o + j * 3) rfl _ _ HRG.out Tryz.underlying103 rfl (by kernel_rfl) ?_) | (go_at_call 129; refine (HHAS.out _ ((Kept.refl _).alloc _) (by simp) (by simp) (by simp)).mono ?_; rintro e w4 ⟨rfl, hk4⟩; have b0 := hk4.cell (p := ⟨wr.heap.size, 0, none⟩) (v := .int .i64 z0) (by simp); have b1 := hk4.cell (p := ⟨wr.heap.size, 1, none⟩) (v := .int .u64 z1) (by simp); have b2 := hk4.cell (p := ⟨wr.heap.size, 2, none⟩) (v := .int .u64 z2) (by simp); have hk5 : Kept wr w4 := ((Kept.refl _).alloc _).trans hk4; have HK5 := Lib.hid hk5; have hs5 := hk5.size; have hsz4 := hk4.size; have HR4 := Lib.hid (HC2.out.1.kept hk5); have HV4 := Lib.hid (HC2.out.2.kept hk5); have d4' := hk5.cell d4; clear hk4 hk5))
            have cA0 := ((Kept.refl w4).drew).cell b0
            have cA1 := ((Kept.refl w4).drew).cell b1
            have cA2 := ((Kept.refl w4).drew).cell b2
            have cA4 := ((Kept.refl w4).drew).cell d4'
            have cB : ∀ O, ((w4.alloc O).drew).cell? ⟨gl, 4, none⟩ = some (.slice ao mo co) := fun O => (((Kept.refl w4).alloc O).drew).cell d4'
            have HO2 : Hid (∀ O, ((w4.alloc O).drew).ownsRow w3.heap.size 103 3 (.slice ao mo co) mo (out.flatMap rcells)) := Lib.hid fun O => by
              have h := (HV4.out.kept (((Kept.refl w4).alloc O).drew)).1
              rw [← HMO.out] at h; exact h
            have f0 := HR4.out.free 4
            have hgl4 : gl < w4.heap.size := HR4.out.lt
            go_region_law ((refine step_append_lies _ (by rfl) _ _ _ (by rfl) w3.heap.size 103 i0 _ 3 24 Tryz.underlying99 I0.out I1.out I2.out I3.out rfl (by omega) (.slice ao mo co) mo _ (by rfl) (HO2.out _) ⟨w4.heap.size, 0, none⟩ 1 1 [.int .i64 z0, .int .u64 z1, .int .u64 z2] (by rfl) (by rfl) (World.news_of_block (cs := #[.int .i64 z0, .int .u64 z1, .int .u64 z2]) (t := 103) (fr := (0, 0)) (heap_new1d w4 _)) (by simp [Value.oneCell']) (by omega) (by unfold maxLen; omega) (by omega) (by simp at hsz4 ⊢; omega) (w4.heap.size + 1) (by simp) ?_; intro gg cap w5 hown5 hgrow hat hlt5; have st5 := hgrow.cell (a := ⟨gl, 4, none⟩) (v := .slice ao mo co) (cB _) HNE.out; have sf5 := (World.frozen?_of_block (a := ⟨gl, 4, none⟩) (hgrow.block gl (by simp; omega) HNE.out)).trans ((Below.frozen (((Kept.refl w4).alloc _).drew) (p := ⟨gl, 4, none⟩) (by simp; omega)).trans f0)))
            all_goals go_wp2
            all_goals
              have hs := settle_step HR4.out HV4.out (by simp at hsz4; omega) HXL.out (by have := HMO.out; omega) HMO.out (c := x) (by rw [HRC.out]; exact hown5) hgrow hat
              have HS5 := Lib.hid hs
              clear hs
              go_roundg (iN - (j + 1))
              case measure => omega
              case rel => exact ⟨j + 1, _, by go_num, by omega, Nat.le_refl _, Lib.hid (by rw [HST.out, keepN, HQ.out]; exact HS5.out.1), Lib.hid ((HFQ.out.trans (Frm.of_kept HK5.out)).trans HS5.out.2)⟩
        · have hje : j = iN := by omega
          have HC3 : Hid (CutR y0 y1 y2 (.func (.func 34) #[] #[.pointer (some ⟨bk, 0, none⟩), .pointer (some ⟨bl, 0, none⟩)]) (.slice ma n mc) fv wr gl w3.heap.size (.slice ao mo co) (minN L2)) := Lib.hid (by have h := HC2.out; rw [hje, ← HL2.out, List.take_length] at h; exact h)
          have hmo2 : mo = (minN L2).length := by rw [hmo, hje, ← HL2.out, List.take_length]
          have HMR : Hid ((minN L2).Perm (settleR PP M)) := Lib.hid (by unfold settleR; rw [← HL1.out]; exact least_perm HPM.out.1 HPM.out.2)
          have hmo3 : mo = (settleR PP M).length := hmo2.trans HMR.out.length_eq
          have d4 := HC3.out.1.cell (i := 4) (by simp)
          have d6 := HC3.out.1.cell (i := 6) (by simp)
          simp only [List.getElem_cons_succ, List.getElem_cons_zero] at d4 d6
          have HMO := Lib.hid hmo3
          clear hmo hmo2 hmo3 hje HC2
          by_cases hbig : 1024 < mo
          · have hb' : (mo : Int) > 1024 := by omega
            go_wp2
            go_ret
            unfold SPost
            rw [if_pos (.inl (by rw [← HMO.out]; exact hbig))]
            exact ⟨rfl, frm_low (HF3.out.trans HFQ.out) hgl (by simp [Value.ownBlock])⟩
          · have hb' : ¬ (mo : Int) > 1024 := by omega
            have HSF : Hid (settleF PP M F = minK (F ++ G1)) := Lib.hid (by unfold settleF; rw [HGG.out])
            have hgn : G1.length ≤ 4096 := by rw [HGG.out, List.length_map]; exact Nat.le_trans (List.length_filter_le ..) (by rw [← HN.out]; exact hl)
            have HGN := Lib.hid hgn
            have HMK : Hid (∀ t ∈ F ++ G1, Mk t) := Lib.hid fun t ht => by
              rcases List.mem_append.1 ht with h | h
              · exact HFM.out.2 t h
              · rw [HGG.out] at h
                obtain ⟨r, _, rfl⟩ := List.mem_map.1 h
                exact evW_lt r
            have HVQ := Lib.hid (ints_frm HV3.out hgB HFQ.out)
            have HGQ := Lib.hid (ints_frm HG3.out hgl HFQ.out)
            have hBq : B ≤ wr.heap.size := by omega
            obtain ⟨SF, hSF⟩ : ∃ SF, SF = minK (F ++ G1) := ⟨_, rfl⟩
            have HSF2 := Lib.hid hSF
            clear hgn hSF
            have hHR : ∀ w8, (∀ k, k < wr.heap.size → some k ≠ fv.ownBlock → w8.heap[k]? = wr.heap[k]?) → RowAt w8 gl 101 [y0, y1, y2, .func (.func 34) #[] #[.pointer (some ⟨bk, 0, none⟩), .pointer (some ⟨bl, 0, none⟩)], .slice ao mo co, .slice ma n mc, fv] := fun w8 h8 =>
              HC3.out.1.same (h8 gl HC3.out.1.lt fun e => by have := (HVQ.out.1.lt gl e.symm).1; omega)
            have HHR := Lib.hid hHR
            clear hHR
            go_wp2_with (first | (at_builtin; refine app_ints rfl _ _ rfl B _ (ofN F) rfl HVQ.out _ (ofN G1) rfl HGQ.out.ints (by have := HFM.out.1; have := HGN.out; simp [ofN]; omega) hBq ?_; intro v8 w8 hown8 hne8 hb8; have HR8 := Lib.hid (HHR.out w8 hne8); have HO8 := Lib.hid hown8; have HNE8 := Lib.hid hne8; have HB8 := Lib.hid hb8; clear hown8 hne8 hb8) | (go_at_call 75; refine (tminimal_any v8 (F ++ G1) w8 HMK.out (by have h := HO8.out.ints; simpa [ofN] using h) (by have := HFM.out.1; have := HGN.out; simp; omega)).mono ?_; rintro e w9 ⟨v9, rfl, hs9, hk9⟩; have HS9 := Lib.hid hs9; have HK9 := Lib.hid hk9; have hr9 := HR8.out.kept hk9; have f9 := hr9.free 6; have e9 := hr9.cell (i := 6) (by simp); have g9 := hr9.lt; have HR9 := Lib.hid hr9; obtain ⟨a9, c9, hv9, _⟩ := hs9.1.ints; obtain ⟨n9, hn9⟩ : ∃ n9, n9 = (ofN (minK (F ++ G1))).length := ⟨_, rfl⟩; rw [← hn9] at hv9; subst hv9; have HN9 := Lib.hid hn9; simp only [List.getElem_cons_succ, List.getElem_cons_zero] at e9; clear hs9 hk9 hr9 hn9))
            all_goals
              have HFR9 : Hid (Frm gl fv (.slice a9 n9 c9) W (w9.setCell ⟨gl, 6, none⟩ (.slice a9 n9 c9))) := Lib.hid (by
                have h3 : Below 0 w9 (w9.setCell ⟨gl, 6, none⟩ (.slice a9 n9 c9)) := Below.setCell (Below.refl _ _) (Nat.zero_le _) _
                have hb8 := HB8.out
                have hk9 := HK9.out
                have hs8 := hb8.size
                have hf := HF3.out.trans HFQ.out
                refine ⟨h3.os.trans (hk9.os.trans (hb8.os.trans hf.os)), h3.tape.trans (hk9.tape.trans (hb8.tape.trans hf.tape)), h3.output.trans (hk9.output.trans (hb8.output.trans hf.output)), Nat.le_trans hf.size (Nat.le_trans hs8 (Nat.le_trans hk9.size h3.size)), fun k hk e1 e2 => ?_, .inr fun g hg => ?_⟩
                · have hkr : k < wr.heap.size := Nat.lt_of_lt_of_le hk hf.size
                  exact (Below.heap_setCell w9 ⟨gl, 6, none⟩ _ k e1).trans ((hk9.block k (by omega)).trans ((HNE8.out k hkr e2).trans (hf.block k hk e1 (by simp [Value.ownBlock]))))
                · have := (HS9.out.1.1.lt g hg).1
                  have := hf.size
                  omega)
              have hnl : n9 = (settleF PP M F).length := by rw [HSF.out, HN9.out]; simp [ofN]
              have hs8 := HB8.out.size
              have HRW : Hid (OwnRws (w9.setCell ⟨gl, 6, none⟩ (.slice a9 n9 c9)) W.heap.size (.slice ao mo co) (minN L2)) := Lib.hid (by
                have h1 : OwnRws w8 w3.heap.size (.slice ao mo co) (minN L2) := ⟨own_tag HC3.out.2.1 HVQ.out.1 (by decide) HNE8.out, HC3.out.2.2⟩
                exact (rws_frm (h1.kept HK9.out) (by omega) (frm_store (Kept.refl _) 6 _)).mono hsz3)
              have HFW : Hid (OwnInts (w9.setCell ⟨gl, 6, none⟩ (.slice a9 n9 c9)) W.heap.size (.slice a9 n9 c9) (ofN (settleF PP M F))) := Lib.hid (by
                rw [HSF.out]
                exact (ints_frm HS9.out.1 (by omega) (frm_store (Kept.refl _) 6 _)).mono (by omega))
              have HRF : Hid (RowAt (w9.setCell ⟨gl, 6, none⟩ (.slice a9 n9 c9)) gl 101 [y0, y1, y2, .func (.func 34) #[] #[.pointer (some ⟨bk, 0, none⟩), .pointer (some ⟨bl, 0, none⟩)], .slice ao mo co, .slice ma n mc, .slice a9 n9 c9]) := Lib.hid (by
                have := HR9.out.store 6 (.slice a9 n9 c9)
                simpa using this)
              go_ret
              unfold SPost
              by_cases hbF : 1024 < n9
              · rw [if_pos (.inr (by rw [← hnl]; exact hbF))]
                first
                  | exact ⟨rfl, frm_low HFR9.out hgl (fun g hg => by have := (HVQ.out.1.lt g hg).1; omega)⟩
                  | (exfalso; omega)
              · rw [if_neg (by rw [← hnl, ← HMO.out]; omega)]
                first
                  | exact ⟨rfl, _, _, minN L2, HMR.out, HRF.out, HRW.out, HFW.out, HFR9.out⟩
                  | (exfalso; omega)
theorem settleP_any (gl bk bl B : Nat) (PP : Nat → Bool) (M F : List Nat) (mv fv : Value) (W : World) (hrow : RowAt W gl 101 [y0, y1, y2, .func (.func 34) #[] #[.pointer (some ⟨bk, 0, none⟩), .pointer (some ⟨bl, 0, none⟩)], y4, mv, fv]) (hM : RwsAt W mv M) (hl : M.length ≤ 4096)
    (hF : OwnInts W B fv (ofN F)) (hF1 : F.length ≤ 1024) (hFm : ∀ t ∈ F, Mk t) (hov : ∀ (W' : World), Kept W W' → ∀ e : Nat, Mk e → Calls Tryz.prog 34 #[.int .i64 e, .pointer (some ⟨bk, 0, none⟩), .pointer (some ⟨bl, 0, none⟩)] W' fun e' w' => e' = .returned (.bool (PP e)) ∧ Kept W' w') (hgB : gl < B) (hB : B ≤ W.heap.size) :
    Calls Tryz.prog 70 #[.pointer (some ⟨gl, 0, none⟩)] W fun e w' => SPost y0 y1 y2 (.func (.func 34) #[] #[.pointer (some ⟨bk, 0, none⟩), .pointer (some ⟨bl, 0, none⟩)]) mv fv gl PP M F W e w' :=
  settleP_try gl bk bl B PP M F mv fv W hrow hM hl hF hF1 hFm hov hgB hB fun B v L w h h2 => sortStable_any B v L w h h2
end Go.Proofs.YteodabnjkikogaaGreat.Tr

/-
  Plain: the search with a limit: where it stands ahead of settle.
-/
namespace Go.Proofs.YteodabnjkikogaaGreat

structure Pend (V T : Nat) (f : Fm) (P : Nat → Bool) (M F : List Nat) (m : Nat) : Prop where
  le : m ≤ f.nodes.length
  len : M.length ≤ 4096
  lenF : F.length ≤ 1024
  mkF : ∀ t ∈ F, t < 16777216
  bad : 1024 < (settleR P M).length ∨ 1024 < (settleF P M F).length → topT V T P f.nodes = none
  good : ∀ R : List Nat, R.Perm (settleR P M) → ¬ (1024 < (settleR P M).length ∨ 1024 < (settleF P M F).length) → TStand V T f P R (settleF P M F) m
theorem pend_start {V T : Nat} {f : Fm} (hok : Ok f V T) (P : Nat → Bool) : Pend V T f P [cond V T] [] f.nodes.length :=
  ⟨Nat.le_refl _, by simp, by simp, by simp, fun h => TStand.bad h, fun R hR h => TStand.start hok hR rfl (by rw [hR.length_eq]; omega) (by omega)⟩
theorem pend_next {V T : Nat} {f : Fm} (hok : Ok f V T) {P : Nat → Bool} {L F : List Nat} {m i : Nat} (h : TStand V T f P L F m) (hi : ∃ c ∈ L, c.testBit (24 + i) = true) (hmax : ∀ c ∈ L, ∀ j, c.testBit (24 + j) = true → j ≤ i)
    (hl4 : (expK V (f.nodes.getD i noNd) i L).length ≤ 4096) : i < m ∧ Pend V T f P (expK V (f.nodes.getD i noNd) i L) F i := by
  obtain ⟨him, _⟩ := h.at hi hmax
  exact ⟨him, Nat.le_of_lt (Nat.lt_of_lt_of_le him h.le), hl4, h.lenF, h.mkF, fun hb => h.many hi hmax hb, fun R hR hb => h.next hok hi hmax hl4 hR rfl (by rw [hR.length_eq]; omega) (by omega)⟩
end Go.Proofs.YteodabnjkikogaaGreat

/-
  Walks: the cutter of truncate: votes.
-/
namespace Go.Proofs.YteodabnjkikogaaGreat.Tr
open Go.RowKit
variable {y0 y1 y2 y3 y4 y6 : Value}

theorem CutAt.kept {w w' : World} {gl B : Nat} {v : Value} {L : List Nat} (h : CutAt y0 y1 y2 y3 y4 y6 w gl B v L) (hk : Kept w w') : CutAt y0 y1 y2 y3 y4 y6 w' gl B v L := ⟨h.1.kept hk, h.2.kept hk⟩
set_option maxRecDepth 100000 in
set_option maxHeartbeats 4000000 in
theorem votes_base (gl B m k r : Nat) (aa : Option Addr) (ac : Nat) (v : Value) (L : List Nat) (W : World) (hB : B ≤ gl) (hL : CutAt y0 y1 y2 y3 y4 y6 W gl B v L) (hl : L.length ≤ 4097) (hr : RowLt 152 r) (hk : k ≤ 1000) (hm : m ≤ 1000) (hc : L.length = 4097 ∨ m < k ∨ k = 0) :
    Calls Tryz.prog 133 #[.pointer (some ⟨gl, 0, none⟩), rowV r, .slice aa m ac, .int .i64 k] W fun e w' => e = .returned (.tuple #[]) ∧ ∃ v', CutAt y0 y1 y2 y3 y4 y6 w' gl B v' (if L.length = 4097 ∨ m < k then L else L ++ [r]) ∧ Frm gl v v' W w' := by
  have HEM : Hid (∀ W', Kept W W' → Calls Tryz.prog 74 #[.pointer (some ⟨gl, 0, none⟩), rowV r] W' fun e w' => e = .returned (.tuple #[]) ∧ ∃ v', CutAt y0 y1 y2 y3 y4 y6 w' gl B v' (addK L r) ∧ Frm gl v v' W' w') := Lib.hid fun W' hk => emit_any gl B r v L W' (hL.kept hk) hr hl hB
  have HL := Lib.hid hL
  obtain ⟨hro, hv⟩ := hL
  have c0 := hro.cell (i := 5) (by simp)
  simp only [List.getElem_cons_succ, List.getElem_cons_zero] at c0
  obtain ⟨la, lc, hv2⟩ := hv.at.shape
  obtain ⟨n, hn⟩ : ∃ n, n = L.length := ⟨_, rfl⟩
  have HN := Lib.hid hn
  rw [← hn] at hv2 hl hc ⊢
  subst hv2
  have hgl := hro.lt
  unfold rowV at *
  generalize evW r = x0 at *
  generalize loW r = x1 at *
  generalize hiW r = x2 at *
  clear hro hv hr hn
  by_cases h0 : k = 0
  · subst h0
    have HF : Hid (addK L r = if n = 4097 ∨ m < 0 then L else L ++ [r]) := Lib.hid (by
      unfold addK
      rw [← HN.out]
      by_cases h : n ≤ 4096
      · rw [if_pos h, if_neg (by omega)]
      · rw [if_neg h, if_pos (.inl (by omega))])
    rw [← HF.out]
    clear hc
    show Calls _ _ #[_, _, _, .int .i64 0] _ _
    go_enter Tryz.func133, Tryz.ntmps133
    go_wp2_with (go_at_call 74; refine (HEM.out _ ((Kept.refl _).alloc _)).mono ?_; rintro e w2 ⟨rfl, v', h3, h4⟩)
    refine bodyPost_end (results_none rfl _ _ _) rfl ?_
    exact ⟨rfl, v', h3, (Frm.of_kept ((Kept.refl W).alloc _)).trans h4⟩
  · have hk0 : ((k : Int) == 0) = false := by simp; omega
    rw [if_pos (by omega)]
    by_cases h1 : n = 4097
    · have h1' : ¬ (n : Int) ≤ 4096 := by omega
      clear h1 hc h0
      go_enter Tryz.func133, Tryz.ntmps133
      go_wp2
      refine bodyPost_end (results_none rfl _ _ _) rfl ?_
      exact ⟨rfl, _, HL.out.kept ((Kept.refl _).alloc _), Frm.of_kept ((Kept.refl _).alloc _)⟩
    · have h1' : (n : Int) ≤ 4096 := by omega
      have h2 : ¬ (k : Int) ≤ (m : Int) := by omega
      clear h1 hc h0
      go_enter Tryz.func133, Tryz.ntmps133
      go_wp2
      refine bodyPost_end (results_none rfl _ _ _) rfl ?_
      exact ⟨rfl, _, HL.out.kept ((Kept.refl _).alloc _), Frm.of_kept ((Kept.refl _).alloc _)⟩
set_option maxRecDepth 100000 in
set_option maxHeartbeats 16000000 in
theorem votes_step (gl B n m k k1 b o ac x0 x1 x2 z0 z1 z2 : Nat) (a : Int) (la : Option Addr) (lc : Nat) (tv : Value) (L1 L2 : List Nat) (W : World) (hgl : gl < W.heap.size) (c0 : W.cell? ⟨gl, 5, none⟩ = some (.slice la n lc)) (hown : ∀ g, (Value.slice la n lc).ownBlock = some g → g < W.heap.size)
    (hn : n ≤ 4096) (hk : 1 ≤ k) (hkm : k ≤ m) (hm : m ≤ 200) (hmc : m ≤ ac) (hk1 : k1 = k - 1) (htv : (2 ≤ ac ∧ tv = .slice (some ⟨b, o + 1, none⟩) (m - 1) (ac - 1)) ∨ (ac = 1 ∧ tv = .slice (some ⟨b, o, none⟩) 0 0))
    (harg : ∀ v1 w', Frm gl (.slice la n lc) v1 W w' → w'.cell? ⟨b, o, none⟩ = some (.int .i64 a)) (_hbo : b < W.heap.size)
    (hwith : ∀ W', Kept W W' → Calls Tryz.prog 69 #[.pointer (some ⟨gl, 0, none⟩), .agg #[.int .i64 x0, .int .u64 x1, .int .u64 x2], .int .i64 a] W' fun e w' => e = .returned (.agg #[.int .i64 z0, .int .u64 z1, .int .u64 z2]) ∧ Kept W' w')
    (hc1 : ∀ W', Kept W W' → Calls Tryz.prog 133 #[.pointer (some ⟨gl, 0, none⟩), .agg #[.int .i64 z0, .int .u64 z1, .int .u64 z2], tv, .int .i64 k1] W' fun e w' => e = .returned (.tuple #[]) ∧ ∃ v1, CutAt y0 y1 y2 y3 y4 y6 w' gl B v1 L1 ∧ Frm gl (.slice la n lc) v1 W' w')
    (hc2 : ∀ v1 W', CutAt y0 y1 y2 y3 y4 y6 W' gl B v1 L1 → Frm gl (.slice la n lc) v1 W W' → Calls Tryz.prog 133 #[.pointer (some ⟨gl, 0, none⟩), .agg #[.int .i64 x0, .int .u64 x1, .int .u64 x2], tv, .int .i64 k] W' fun e w' => e = .returned (.tuple #[]) ∧ ∃ v2, CutAt y0 y1 y2 y3 y4 y6 w' gl B v2 L2 ∧ Frm gl v1 v2 W' w') :
    Calls Tryz.prog 133 #[.pointer (some ⟨gl, 0, none⟩), .agg #[.int .i64 x0, .int .u64 x1, .int .u64 x2], .slice (some ⟨b, o, none⟩) m ac, .int .i64 k] W fun e w' => e = .returned (.tuple #[]) ∧ ∃ v2, CutAt y0 y1 y2 y3 y4 y6 w' gl B v2 L2 ∧ Frm gl (.slice la n lc) v2 W w' := by
  obtain ⟨w1, hw1⟩ : ∃ w1, w1 = W.alloc (.cells #[.int .i64 x0, .int .u64 x1, .int .u64 x2] 103) := ⟨_, rfl⟩
  have hkw : Kept W w1 := by rw [hw1]; exact (Kept.refl _).alloc _
  have hsz : w1.heap.size = W.heap.size + 1 := by rw [hw1]; simp
  have q3 : w1.cell? ⟨W.heap.size, 0, none⟩ = some (.int .i64 x0) := by rw [hw1]; simp
  have q4 : w1.cell? ⟨W.heap.size, 1, none⟩ = some (.int .u64 x1) := by rw [hw1]; simp
  have q5 : w1.cell? ⟨W.heap.size, 2, none⟩ = some (.int .u64 x2) := by rw [hw1]; simp
  have qa := harg _ w1 (Frm.of_kept hkw)
  have HC1 : Hid (∀ W', Kept w1 W' → Calls Tryz.prog 133 #[.pointer (some ⟨gl, 0, none⟩), .agg #[.int .i64 z0, .int .u64 z1, .int .u64 z2], tv, .int .i64 k1] W' fun e w' => e = .returned (.tuple #[]) ∧ (∃ v1, CutAt y0 y1 y2 y3 y4 y6 w' gl B v1 L1 ∧ Frm gl (.slice la n lc) v1 w1 w') ∧
      (w'.cell? ⟨W.heap.size, 0, none⟩ = some (.int .i64 x0) ∧ w'.cell? ⟨W.heap.size, 1, none⟩ = some (.int .u64 x1) ∧ w'.cell? ⟨W.heap.size, 2, none⟩ = some (.int .u64 x2) ∧ w'.cell? ⟨b, o, none⟩ = some (.int .i64 a))) := Lib.hid fun W' hk => by
    refine (hc1 W' (hkw.trans hk)).mono fun e w' ⟨he, v1, h1, h2⟩ => ⟨he, ⟨v1, h1, (Frm.of_kept hk).trans h2⟩, ?_⟩
    have hs := hk.size
    have hne1 : some W.heap.size ≠ (Value.slice la n lc).ownBlock := fun e => by have := hown _ e.symm; omega
    exact ⟨h2.cell (by omega) (by omega) hne1 (hk.cell q3), h2.cell (by omega) (by omega) hne1 (hk.cell q4), h2.cell (by omega) (by omega) hne1 (hk.cell q5), harg _ _ ((Frm.of_kept (hkw.trans hk)).trans h2)⟩
  have HC2 := Lib.hid hc2
  have HOWN := Lib.hid hown
  have HWI := Lib.hid (fun W' (hk : Kept w1 W') => hwith W' (hkw.trans hk))
  have HKW := Lib.hid hkw
  have HSZ := Lib.hid hsz
  have HW1 : Hid (w1 = W.alloc (.cells #[.int .i64 x0, .int .u64 x1, .int .u64 x2] 103)) := Lib.hid hw1
  have hn' : (n : Int) ≤ 4096 := by omega
  have hkm' : (k : Int) ≤ (m : Int) := by omega
  have hk0 : ((k : Int) == 0) = false := by simp; omega
  have hm1 : (0 : Int) < (m : Int) := by omega
  have hm2 : 1 ≤ (m : Int) := by omega
  have hm3 : 0 < m := by omega
  have hk9 : (k : Int) ≤ 200 := by omega
  have hk91 : 1 ≤ (k : Int) := by omega
  have hmac : 1 ≤ (ac : Int) := by omega
  have hkk : (k : Int) - 1 = (k1 : Int) := by omega
  have hkw1 : IntKind.i64.wrap (k1 : Int) = (k1 : Int) := by rw [IntKind.wrap_i64]; omega
  rcases htv with ⟨hac, rfl⟩ | ⟨hac, rfl⟩
  · have hac1 : ¬ ac = 1 := (by omega)
    have hac2 : ¬ (ac : Int) = 1 := (by omega)
    clear hc1 hc2 hwith hkw hown harg hk1 hn hk hkm hw1 hsz
    go_enter Tryz.func133, Tryz.ntmps133
    go_upto_region 4 with fail
    rw [← HW1.out]
    go_cut [] (fun wx => (∃ v1, Hid (CutAt y0 y1 y2 y3 y4 y6 wx gl B v1 L1) ∧ Hid (Frm gl (.slice la n lc) v1 w1 wx)) ∧ (wx.cell? ⟨W.heap.size, 0, none⟩ = some (.int .i64 x0) ∧ wx.cell? ⟨W.heap.size, 1, none⟩ = some (.int .u64 x1) ∧ wx.cell? ⟨W.heap.size, 2, none⟩ = some (.int .u64 x2)))
    case first =>
      go_region_held3 (fun w' => w'.cell? ⟨W.heap.size, 0, none⟩ = some (.int .i64 x0) ∧ w'.cell? ⟨W.heap.size, 1, none⟩ = some (.int .u64 x1) ∧ w'.cell? ⟨W.heap.size, 2, none⟩ = some (.int .u64 x2) ∧ w'.cell? ⟨b, o, none⟩ = some (.int .i64 a))
        (first | go_keep | exact ⟨hk3.cell q3, hk3.cell q4, hk3.cell q5, hk3.cell qa⟩ | exact hS4)
        (first | (go_at_call 69; refine (HWI.out _ (Kept.refl _).drew).mono ?_; rintro e w3 ⟨rfl, hk3⟩) | (go_at_call 133; refine (HC1.out _ ((Kept.refl _).drew.trans hk3)).mono ?_; rintro e w4 ⟨rfl, h4, hS4⟩))
      all_goals
        obtain ⟨v1, h5, h6⟩ := h4
        have HL5 := Lib.hid h5
        have HF6 := Lib.hid h6
        obtain ⟨g3, g4, g5, _⟩ := hS4
        clear h5 h6
        go_wp2_with fail
        go_meet
        exact ⟨⟨v1, HL5, HF6⟩, g3, g4, g5⟩
    case rest =>
      obtain ⟨⟨v1, h5, h6⟩, g3, g4, g5⟩ := hcut
      clear q3 q4 q5 qa HC1 HWI hkw1
      have HC3 : Hid (∀ W', Kept wc W' → Calls Tryz.prog 133 #[.pointer (some ⟨gl, 0, none⟩), .agg #[.int .i64 x0, .int .u64 x1, .int .u64 x2], .slice (some ⟨b, o + 1, none⟩) (m - 1) (ac - 1), .int .i64 k] W' fun e w' => e = .returned (.tuple #[]) ∧ (∃ v2, Hid (CutAt y0 y1 y2 y3 y4 y6 w' gl B v2 L2) ∧ Hid (Frm gl (.slice la n lc) v2 W w')) ∧ (w'.cell? ⟨W.heap.size, 0, none⟩ = some (.int .i64 x0) ∧ w'.cell? ⟨W.heap.size, 1, none⟩ = some (.int .u64 x1) ∧ w'.cell? ⟨W.heap.size, 2, none⟩ = some (.int .u64 x2))) := Lib.hid fun W' hk => by
        have hf := (Frm.of_kept HKW.out).trans (h6.out.trans (Frm.of_kept hk))
        refine (HC2.out v1 W' (h5.out.kept hk) hf).mono fun _ _ ⟨he, v2, e1, e2⟩ => ⟨he, ⟨v2, Lib.hid e1, Lib.hid (hf.trans e2)⟩, ?_⟩
        have hs := hk.size
        have hs2 := h6.out.size
        have hsz := HSZ.out
        have hne1 : some W.heap.size ≠ v1.ownBlock := fun e => by
          rcases h6.out.own with h | h
          · rw [h] at e; have := HOWN.out _ e.symm; omega
          · have := h _ e.symm; omega
        exact ⟨e2.cell (by omega) (by omega) hne1 (hk.cell g3), e2.cell (by omega) (by omega) hne1 (hk.cell g4), e2.cell (by omega) (by omega) hne1 (hk.cell g5)⟩
      clear HC2 h5 h6
      go_upto_region 5 with fail
      go_region_held3 (fun w' => w'.cell? ⟨W.heap.size, 0, none⟩ = some (.int .i64 x0) ∧ w'.cell? ⟨W.heap.size, 1, none⟩ = some (.int .u64 x1) ∧ w'.cell? ⟨W.heap.size, 2, none⟩ = some (.int .u64 x2))
        (first | go_keep | exact hS4)
        (first | (go_at_call 133; refine (HC3.out _ ((Kept.refl _).drew)).mono ?_; rintro e w4 ⟨rfl, ⟨v2, h7, h8⟩, hS4⟩))
      all_goals
        go_wp2
        refine bodyPost_end (results_none rfl _ _ _) rfl ?_
        exact ⟨rfl, v2, h7.out, h8.out⟩
  · subst hac
    skip
    clear hc1 hc2 hwith hkw hown harg hk1 hn hk hkm hw1 hsz
    go_enter Tryz.func133, Tryz.ntmps133
    go_upto_region 4 with fail
    rw [← HW1.out]
    go_cut [] (fun wx => (∃ v1, Hid (CutAt y0 y1 y2 y3 y4 y6 wx gl B v1 L1) ∧ Hid (Frm gl (.slice la n lc) v1 w1 wx)) ∧ (wx.cell? ⟨W.heap.size, 0, none⟩ = some (.int .i64 x0) ∧ wx.cell? ⟨W.heap.size, 1, none⟩ = some (.int .u64 x1) ∧ wx.cell? ⟨W.heap.size, 2, none⟩ = some (.int .u64 x2)))
    case first =>
      go_region_held3 (fun w' => w'.cell? ⟨W.heap.size, 0, none⟩ = some (.int .i64 x0) ∧ w'.cell? ⟨W.heap.size, 1, none⟩ = some (.int .u64 x1) ∧ w'.cell? ⟨W.heap.size, 2, none⟩ = some (.int .u64 x2) ∧ w'.cell? ⟨b, o, none⟩ = some (.int .i64 a))
        (first | go_keep | exact ⟨hk3.cell q3, hk3.cell q4, hk3.cell q5, hk3.cell qa⟩ | exact hS4)
        (first | (go_at_call 69; refine (HWI.out _ (Kept.refl _).drew).mono ?_; rintro e w3 ⟨rfl, hk3⟩) | (go_at_call 133; refine (HC1.out _ ((Kept.refl _).drew.trans hk3)).mono ?_; rintro e w4 ⟨rfl, h4, hS4⟩))
      all_goals
        obtain ⟨v1, h5, h6⟩ := h4
        have HL5 := Lib.hid h5
        have HF6 := Lib.hid h6
        obtain ⟨g3, g4, g5, _⟩ := hS4
        clear h5 h6
        go_wp2_with fail
        go_meet
        exact ⟨⟨v1, HL5, HF6⟩, g3, g4, g5⟩
    case rest =>
      obtain ⟨⟨v1, h5, h6⟩, g3, g4, g5⟩ := hcut
      clear q3 q4 q5 qa HC1 HWI hkw1
      have HC3 : Hid (∀ W', Kept wc W' → Calls Tryz.prog 133 #[.pointer (some ⟨gl, 0, none⟩), .agg #[.int .i64 x0, .int .u64 x1, .int .u64 x2], .slice (some ⟨b, o, none⟩) 0 0, .int .i64 k] W' fun e w' => e = .returned (.tuple #[]) ∧ (∃ v2, Hid (CutAt y0 y1 y2 y3 y4 y6 w' gl B v2 L2) ∧ Hid (Frm gl (.slice la n lc) v2 W w')) ∧ (w'.cell? ⟨W.heap.size, 0, none⟩ = some (.int .i64 x0) ∧ w'.cell? ⟨W.heap.size, 1, none⟩ = some (.int .u64 x1) ∧ w'.cell? ⟨W.heap.size, 2, none⟩ = some (.int .u64 x2))) := Lib.hid fun W' hk => by
        have hf := (Frm.of_kept HKW.out).trans (h6.out.trans (Frm.of_kept hk))
        refine (HC2.out v1 W' (h5.out.kept hk) hf).mono fun _ _ ⟨he, v2, e1, e2⟩ => ⟨he, ⟨v2, Lib.hid e1, Lib.hid (hf.trans e2)⟩, ?_⟩
        have hs := hk.size
        have hs2 := h6.out.size
        have hsz := HSZ.out
        have hne1 : some W.heap.size ≠ v1.ownBlock := fun e => by
          rcases h6.out.own with h | h
          · rw [h] at e; have := HOWN.out _ e.symm; omega
          · have := h _ e.symm; omega
        exact ⟨e2.cell (by omega) (by omega) hne1 (hk.cell g3), e2.cell (by omega) (by omega) hne1 (hk.cell g4), e2.cell (by omega) (by omega) hne1 (hk.cell g5)⟩
      clear HC2 h5 h6
      go_upto_region 5 with fail
      go_region_held3 (fun w' => w'.cell? ⟨W.heap.size, 0, none⟩ = some (.int .i64 x0) ∧ w'.cell? ⟨W.heap.size, 1, none⟩ = some (.int .u64 x1) ∧ w'.cell? ⟨W.heap.size, 2, none⟩ = some (.int .u64 x2))
        (first | go_keep | exact hS4)
        (first | (go_at_call 133; refine (HC3.out _ ((Kept.refl _).drew)).mono ?_; rintro e w4 ⟨rfl, ⟨v2, h7, h8⟩, hS4⟩))
      all_goals
        go_wp2
        refine bodyPost_end (results_none rfl _ _ _) rfl ?_
        exact ⟨rfl, v2, h7.out, h8.out⟩
end Go.Proofs.YteodabnjkikogaaGreat.Tr

/-
  Walks: the cutter of truncate: votes. (Turned by conv7.py.)
-/
namespace Go.Proofs.YteodabnjkikogaaGreat.Tr
open Go.RowKit
variable {y0 y1 y2 y3 y4 y6 : Value}

set_option maxRecDepth 100000 in
set_option maxHeartbeats 16000000 in
theorem votes_any (gl B V : Nat) (W0 : World) (hV : V ≤ 24) (hB : B ≤ gl) (_hBW : B ≤ W0.heap.size) :
    ∀ (args : List Int) (va : Value), (∀ w', Below B W0 w' → IntsAt w' va args) → (∀ a ∈ args, 0 ≤ a ∧ a < (V : Int) + 128) → args.length ≤ 100 → ∀ (k r : Nat) (v : Value) (L : List Nat) (W : World), Below B W0 W → W.cell? ⟨gl, 0, none⟩ = some (.int .i64 V) → CutAt y0 y1 y2 y3 y4 y6 W gl B v L → L.length ≤ 4097 → RowLt 152 r → k ≤ 1000 →
      Calls Tryz.prog 133 #[.pointer (some ⟨gl, 0, none⟩), rowV r, va, .int .i64 k] W fun e w' => e = .returned (.tuple #[]) ∧ ∃ v', CutAt y0 y1 y2 y3 y4 y6 w' gl B v' ((L ++ chooseK V args k r).take 4097) ∧ Frm gl v v' W w' := by
  intro args
  induction args with
  | nil =>
    intro va hva _ _ k r v L W hW hcV hL hl hr hk
    obtain ⟨aa, an, ac, rfl⟩ := (hva W hW).shape
    have han : an = 0 := by
      obtain ⟨_, _, h, _⟩ := hva W hW
      injection h
    subst han
    have := votes_base gl B 0 k r aa ac v L W hB hL hl hr hk (by omega) (by omega)
    refine this.mono fun e w' ⟨he, v', h1, h2⟩ => ⟨he, v', ?_, h2⟩
    unfold chooseK
    by_cases hk0 : k = 0
    · rw [if_pos hk0]
      by_cases h9 : L.length = 4097
      · rw [if_pos (.inl h9)] at h1
        rw [List.take_append, h9, List.take_of_length_le (by omega)]; simpa using h1
      · rw [if_neg (by omega)] at h1
        rw [List.take_of_length_le (by simp; omega)]; exact h1
    · rw [if_neg hk0, List.append_nil, List.take_of_length_le hl]
      rw [if_pos (.inr (by omega))] at h1; exact h1
  | cons a l ih =>
    intro va hva hargs hal k r v L W hW hcV hL hl hr hk
    obtain ⟨aa, an, ac, rfl⟩ := (hva W hW).shape
    have han : an = l.length + 1 := by
      obtain ⟨_, _, h, _⟩ := hva W hW
      injection h
    subst han
    by_cases hbase : L.length = 4097 ∨ l.length + 1 < k ∨ k = 0
    · have := votes_base gl B (l.length + 1) k r aa ac v L W hB hL hl hr hk (by simp at hal; omega) hbase
      refine this.mono fun e w' ⟨he, v', h1, h2⟩ => ⟨he, v', ?_, h2⟩
      by_cases h9 : L.length = 4097
      · rw [if_pos (.inl h9)] at h1
        rw [List.take_append, h9, List.take_of_length_le (by omega)]; simpa using h1
      · by_cases h8 : l.length + 1 < k
        · rw [if_pos (.inr h8)] at h1
          rw [chooseK_many V (a :: l) k r (by simpa using h8), List.append_nil, List.take_of_length_le hl]; exact h1
        · rw [if_neg (by omega)] at h1
          unfold chooseK
          rw [if_pos (by omega), List.take_of_length_le (by simp; omega)]; exact h1
    · have hl4 : L.length ≤ 4096 := by omega
      have hk1 : 1 ≤ k := by omega
      have hkl : k ≤ l.length + 1 := by omega
      obtain ⟨k1, hk1e⟩ : ∃ k1, k1 = k - 1 := ⟨_, rfl⟩
      have hlt : ∀ x ∈ l, 0 ≤ x ∧ x < (V : Int) + 128 := fun x hx => hargs x (List.mem_cons_of_mem _ hx)
      have ha := hargs a (List.mem_cons_self ..)
      have hr1 : RowLt 152 (withC V r a) := rowLt_or hr (rowLt_mono (rowLt_cond (V := V) (m := 128) (by omega) hV) (by omega))
      -- the tail
      obtain ⟨b, o, rfl, hca⟩ : ∃ b o, aa = some ⟨b, o, none⟩ ∧ ∀ w', Below B W0 w' → w'.cell? ⟨b, o, none⟩ = some (.int .i64 a) := by
        obtain ⟨a', c', h1, _, _, h4⟩ := hva W hW
        injection h1 with h1 h2 h3
        obtain ⟨b, o, h5, _⟩ := h4 0 (by simp)
        refine ⟨b, o, by rw [h1, h5], fun w' hw' => ?_⟩
        obtain ⟨a2, c2, g1, _, _, g4⟩ := hva w' hw'
        injection g1 with g1 g2 g3
        obtain ⟨b2, o2, g5, g6⟩ := g4 0 (by simp)
        rw [← g1, h1, h5] at g5
        injection g5 with g5
        injection g5 with g7 g8
        subst g7 g8
        simpa using g6
      have hac : l.length + 1 ≤ ac := by
        obtain ⟨_, _, h1, h2, _⟩ := hva W hW
        injection h1 with _ _ h3
        rw [h3]; simpa using h2.1
      have hcut : chooseK V (a :: l) k r = chooseK V l k1 (withC V r a) ++ chooseK V l k r := by
        rw [hk1e]
        conv => lhs; unfold chooseK
        rw [if_neg (by omega)]
      rw [hcut]
      obtain ⟨hro, hv⟩ := hL
      have hLA : CutAt y0 y1 y2 y3 y4 y6 W gl B v L := ⟨hro, hv⟩
      have hgl := hro.lt
      have c0 := hro.cell (i := 5) (by simp)
      simp only [List.getElem_cons_succ, List.getElem_cons_zero] at c0
      have e0 := hro.cell (i := 0) (by simp)
      simp only [List.getElem_cons_zero] at e0
      have hy0 : y0 = .int .i64 V := by rw [e0] at hcV; exact Option.some.inj hcV
      obtain ⟨la, lc, rfl⟩ := hv.at.shape
      have hBW' : B ≤ W.heap.size := by omega
      obtain ⟨tv, htv, hti⟩ : ∃ tv, ((2 ≤ ac ∧ tv = .slice (some ⟨b, o + 1, none⟩) (l.length + 1 - 1) (ac - 1)) ∨ (ac = 1 ∧ tv = .slice (some ⟨b, o, none⟩) 0 0)) ∧ ∀ w', Below B W0 w' → IntsAt w' tv l := by
        by_cases h2 : 2 ≤ ac
        · exact ⟨_, .inl ⟨h2, rfl⟩, fun w' hw' => ints_tail (hva w' hw') h2⟩
        · have hl0 : l = [] := List.eq_nil_of_length_eq_zero (by omega)
          subst hl0
          exact ⟨_, .inr ⟨by omega, rfl⟩, fun w' _ => ⟨some ⟨b, o, none⟩, 0, rfl, ⟨by simp, fun h => by cases h⟩, by simp, fun i h => by simp at h⟩⟩
      have hbo : b < W.heap.size := by
        have := hca W hW
        by_cases h : b < W.heap.size
        · exact h
        · simp [World.cell?, Array.getElem?_eq_none (Nat.le_of_not_lt h)] at this
      have hX1 : (L ++ chooseK V l k1 (withC V r a)).take 4097 = (L ++ chooseK V l k1 (withC V r a)).take 4097 := rfl
      refine votes_step gl B L.length (l.length + 1) k k1 b o ac _ _ _ (evW (withC V r a)) (loW (withC V r a)) (hiW (withC V r a)) a la lc tv ((L ++ chooseK V l k1 (withC V r a)).take 4097) _ W hgl c0 (fun g hg => (hv.own_ge hg).2) hl4 hk1 hkl (by simp at hal; omega) hac hk1e htv (fun v1 w' hf => hca w' (hW.trans (frm_below hf hv hB hBW'))) hbo (fun W' hk => cadd_any gl r V a W' (hk.cell hcV) hr hV (by omega)) (fun W' hk => ?_) (fun v1 W' h1 h2 => ?_)
      · exact ih tv hti hlt (by simp at hal; omega) k1 (withC V r a) _ L W' (hW.trans (hk.mono hBW')) (hk.cell hcV) (hLA.kept hk) hl hr1 (by omega)
      · have h3 := ih tv hti hlt (by simp at hal; omega) k r v1 _ W' (hW.trans (frm_below h2 hv hB hBW')) (by have := h1.1.cell (i := 0) (by simp); simp only [List.getElem_cons_zero] at this; rw [this, hy0]) h1 (by rw [List.length_take]; omega) hr hk
        rw [take_app, List.append_assoc] at h3
        exact h3
end Go.Proofs.YteodabnjkikogaaGreat.Tr

/-
  Plain: the reference's rows of the top-down search: nodes as ascending lists; parts, minimal rows, choices.
-/
namespace Go.Proofs.YteodabnjkikogaaGreat

/-- The nodes of a row, ascending. -/
def nodesOf (r : Nat) : List Nat := (List.range 128).filter fun j => r.testBit (24 + j)
/-- How many of the first list's elements, in their order, a walk over the second one finds. -/
def stepN (la : List Nat) (k x : Nat) : Nat := if la[k]? = some x then k + 1 else k
def scanN (la lb : List Nat) (k : Nat) : Nat := lb.foldl (stepN la) k
/-- The rows that the reference keeps. -/
def outAt (L : List Nat) (i j : Nat) : Bool := decide (i ≠ j) && (subN (L.getD j 0) (L.getD i 0) && (!subN (L.getD i 0) (L.getD j 0) || decide (j < i)))
def keptAt (L : List Nat) (i : Nat) : Bool := (List.range L.length).all fun j => !outAt L i j
def refMinTo (L : List Nat) (m : Nat) : List Nat := ((List.range m).filter (keptAt L)).map fun i => L.getD i 0
def refMin (L : List Nat) : List Nat := refMinTo L L.length
/-- The rows that the reference's choices makes, with so much room. -/
def refCh (V : Nat) : List Int → Nat → Nat → Int → List Nat
  | [], k, r, _ => if k = 0 then [r] else []
  | a :: l, k, r, room => if k = 0 then [r] else if l.length + 1 < k ∨ room < 0 then [] else
      refCh V l (k - 1) (withC V r a) room ++ refCh V l k r (room - (refCh V l (k - 1) (withC V r a) room).length)
theorem chooseK_zero (V : Nat) (args : List Int) (r : Nat) : chooseK V args 0 r = [r] := by
  cases args <;> unfold chooseK <;> rw [if_pos rfl]
theorem chooseK_all (V : Nat) : ∀ (args : List Int) (r : Nat), chooseK V args args.length r = [args.foldl (withC V) r] := by
  intro args
  induction args with
  | nil => intro r; rfl
  | cons a l ih =>
    intro r
    unfold chooseK
    rw [if_neg (by simp), List.length_cons, Nat.add_sub_cancel, ih, chooseK_many V l (l.length + 1) r (by omega)]; rfl
theorem chooseK_one (V : Nat) : ∀ (args : List Int) (r : Nat), chooseK V args 1 r = args.map (withC V r) := by
  intro args
  induction args with
  | nil => intro r; rfl
  | cons a l ih =>
    intro r
    unfold chooseK
    rw [if_neg (by omega), show 1 - 1 = 0 by omega, chooseK_zero, ih]; rfl
end Go.Proofs.YteodabnjkikogaaGreat

/-
  Walks: the cutter of truncate: replace.
-/
namespace Go.Proofs.YteodabnjkikogaaGreat.Tr
open Go.RowKit
variable {y0 y1 y2 y3 y4 y6 : Value}

set_option maxRecDepth 100000 in
set_option maxHeartbeats 16000000 in
theorem replace_any (gl B V i r b o n c : Nat) (x : Nd) (ua : Option Addr) (un uc : Nat) (v : Value) (L : List Nat) (W : World) (hB : B ≤ gl) (hV : V ≤ 24) (hBW : B ≤ W.heap.size) (hL : CutAt (.int .i64 V) (.slice (some ⟨b, o, none⟩) n c) y2 y3 y4 y6 W gl B v L) (hl : L.length ≤ 4097) (hr : RowLt 152 r) (hi : i < 128) (hin : i < n)
    (hnd : W.rangeAt b (o + i * 3) [.int .i64 x.kind, .int .i64 x.k, .slice ua un uc]) (hia : ∀ w', Below B W w' → IntsAt w' (.slice ua un uc) x.args) (hargs : ∀ a ∈ x.args, 0 ≤ a ∧ a < (V : Int) + 128) (h16 : x.args.length ≤ 16)
    (hkd : x.kind = 0 ∨ x.kind = 2 ∨ x.kind = 3 ∨ x.kind = 4) (hk4 : x.kind = 4 → 1 ≤ x.k ∧ x.k ≤ x.args.length) :
    Calls Tryz.prog 73 #[.pointer (some ⟨gl, 0, none⟩), rowV r, .int .i64 i] W fun e w' => e = .returned (.tuple #[]) ∧ ∃ v', CutAt (.int .i64 V) (.slice (some ⟨b, o, none⟩) n c) y2 y3 y4 y6 w' gl B v' ((L ++ expandK V x i r).take 4097) ∧ Frm gl v v' W w' := by
  obtain ⟨kd, kk, args⟩ := x
  simp only at hnd hia hargs h16 hkd hk4
  have hr1 : RowLt 152 (sdiff r (2 ^ (24 + i))) := fun j hj => by rw [sdiff_bit] at hj; simp at hj; exact hr j hj.1
  have HWO : Hid (∀ W', Calls Tryz.prog 125 #[rowV r, .int .i64 i, .bool false] W' fun e w' => e = .returned (rowV (sdiff r (2 ^ (24 + i)))) ∧ Kept W' w') := Lib.hid fun W' => tunflip_any hr i hi W'
  have HEX : Hid ((kd = 2 → expandK V ⟨kd, kk, args⟩ i r = chooseK V args args.length (sdiff r (2 ^ (24 + i)))) ∧ (kd = 3 → expandK V ⟨kd, kk, args⟩ i r = chooseK V args 1 (sdiff r (2 ^ (24 + i)))) ∧ (kd = 4 → expandK V ⟨kd, kk, args⟩ i r = chooseK V args kk.toNat (sdiff r (2 ^ (24 + i)))) ∧ (kd = 0 → expandK V ⟨kd, kk, args⟩ i r = if kk = 1 then [sdiff r (2 ^ (24 + i))] else [])) := Lib.hid (by
    unfold expandK
    refine ⟨fun h => ?_, fun h => ?_, fun h => ?_, fun h => ?_⟩
    · simp only [h]; rw [if_neg (by decide), if_pos trivial, chooseK_all]
    · simp only [h]; rw [if_neg (by decide), if_neg (by decide), if_pos trivial, chooseK_one]
    · simp only [h]; rw [if_neg (by decide), if_neg (by decide), if_neg (by decide)]
    · simp only [h]; rw [if_pos trivial])
  generalize sdiff r (2 ^ (24 + i)) = r1 at *
  obtain ⟨ex, hex⟩ : ∃ ex, ex = expandK V ⟨kd, kk, args⟩ i r := ⟨_, rfl⟩
  rw [← hex] at HEX ⊢
  have HL := Lib.hid hL
  have HR1 := Lib.hid hr1
  have hun : un = args.length := by
    obtain ⟨_, _, h, _⟩ := hia W (Below.refl _ _)
    injection h
  have HUN := Lib.hid hun
  have hun16 : un ≤ 16 := by omega
  have HVO : Hid (∀ (K : Nat) (W' : World), K ≤ 1000 → Kept W W' → Calls Tryz.prog 133 #[.pointer (some ⟨gl, 0, none⟩), rowV r1, .slice ua un uc, .int .i64 K] W' fun e w' => e = .returned (.tuple #[]) ∧ ∃ v', CutAt (.int .i64 V) (.slice (some ⟨b, o, none⟩) n c) y2 y3 y4 y6 w' gl B v' ((L ++ chooseK V args K r1).take 4097) ∧ Frm gl v v' W w') := Lib.hid fun K W' hK hk => by
    have hV0 := (hL.kept hk).1.cell (i := 0) (by simp)
    simp only [List.getElem_cons_zero] at hV0
    exact (votes_any gl B V W hV hB hBW args (.slice ua un uc) hia hargs (by omega) K r1 v L W' (hk.mono hBW) hV0 (hL.kept hk) hl hr1 hK).mono fun _ _ ⟨h1, v', h2, h3⟩ => ⟨h1, v', h2, (Frm.of_kept hk).trans h3⟩
  have HEM : Hid (∀ W', Kept W W' → Calls Tryz.prog 74 #[.pointer (some ⟨gl, 0, none⟩), rowV r1] W' fun e w' => e = .returned (.tuple #[]) ∧ ∃ v', CutAt (.int .i64 V) (.slice (some ⟨b, o, none⟩) n c) y2 y3 y4 y6 w' gl B v' ((L ++ [r1]).take 4097) ∧ Frm gl v v' W w') := Lib.hid fun W' hk => by
    have := emit_any gl B r1 v L W' (hL.kept hk) hr1 hl hB
    rw [addK_take hl] at this
    exact this.mono fun _ _ ⟨h1, v', h2, h3⟩ => ⟨h1, v', h2, (Frm.of_kept hk).trans h3⟩
  have HOUT : Hid (∀ W', Kept W W' → CutAt (.int .i64 V) (.slice (some ⟨b, o, none⟩) n c) y2 y3 y4 y6 W' gl B v (L.take 4097)) := Lib.hid fun W' hk => by rw [List.take_of_length_le hl]; exact hL.kept hk
  have hc1 := (hL.kept ((Kept.refl W).alloc (.cells #[.int .i64 (evW r), .int .u64 (loW r), .int .u64 (hiW r)] 103))).1.cell (i := 1) (by simp)
  simp only [List.getElem_cons_succ, List.getElem_cons_zero] at hc1
  unfold rowV at *
  obtain ⟨z0, hz0⟩ : ∃ y, y = evW r1 := ⟨_, rfl⟩
  obtain ⟨z1, hz1⟩ : ∃ y, y = loW r1 := ⟨_, rfl⟩
  obtain ⟨z2, hz2⟩ : ∃ y, y = hiW r1 := ⟨_, rfl⟩
  rw [← hz0, ← hz1, ← hz2] at HWO HVO HEM
  generalize evW r = x0 at *
  generalize loW r = x1 at *
  generalize hiW r = x2 at *
  have hii : (i : Int) < (n : Int) := by omega
  have HND : Hid (((W.alloc (.cells #[.int .i64 x0, .int .u64 x1, .int .u64 x2] 103))).rangeAt b (o + i * 3) [.int .i64 kd, .int .i64 kk, .slice ua un uc]) := Lib.hid (range_kept hnd ((Kept.refl W).alloc _))
  have HK4 := Lib.hid hk4
  have hgl := hL.1.lt
  clear hL hr hr1 hnd hin hi hia hargs hun hex hz0 hz1 hz2 hk4
  go_enter Tryz.func73, Tryz.ntmps73
  go_upto_region 2 with (first | (with_reducible refine wpList_load_mid rfl 64 _ rfl b (o + i * 3) rfl _ _ HND.out Tryz.underlying64 rfl (by kernel_rfl) ?_))
  go_cut [] (fun wx => Hid (Kept W wx ∧ RowAt wx W.heap.size 103 [.int .i64 z0, .int .u64 z1, .int .u64 z2] ∧ RowAt wx (W.heap.size + 1) 64 [.int .i64 kd, .int .i64 kk, .slice ua un uc]))
  case first =>
    go_wp2_with fail
    refine (HWO.out _).mono ?_
    rintro e w2 ⟨rfl, hk2⟩
    have hbx := (RowAt.made2 W #[.int .i64 x0, .int .u64 x1, .int .u64 x2] 103 (.cells #[.int .i64 kd, .int .i64 kk, .slice ua un uc] 64)).kept hk2
    have hnx : RowAt w2 (W.heap.size + 1) 64 [.int .i64 kd, .int .i64 kk, .slice ua un uc] := by
      have := (RowAt.made (W.alloc (.cells #[.int .i64 x0, .int .u64 x1, .int .u64 x2] 103)) #[.int .i64 kd, .int .i64 kk, .slice ua un uc] 64).kept hk2
      simpa using this
    have d0 := hbx.cell (i := 0) (by simp)
    have d1 := hbx.cell (i := 1) (by simp)
    have d2 := hbx.cell (i := 2) (by simp)
    have f0 := hbx.free 0
    have f1 := hbx.free 1
    have f2 := hbx.free 2
    simp only [List.getElem_cons_succ, List.getElem_cons_zero] at d0 d1 d2
    have HS : Hid (Kept W (((w2.setCell ⟨W.heap.size, 0, none⟩ (.int .i64 z0)).setCell ⟨W.heap.size, 1, none⟩ (.int .u64 z1)).setCell ⟨W.heap.size, 2, none⟩ (.int .u64 z2)) ∧ RowAt (((w2.setCell ⟨W.heap.size, 0, none⟩ (.int .i64 z0)).setCell ⟨W.heap.size, 1, none⟩ (.int .u64 z1)).setCell ⟨W.heap.size, 2, none⟩ (.int .u64 z2)) W.heap.size 103 [.int .i64 z0, .int .u64 z1, .int .u64 z2] ∧ RowAt (((w2.setCell ⟨W.heap.size, 0, none⟩ (.int .i64 z0)).setCell ⟨W.heap.size, 1, none⟩ (.int .u64 z1)).setCell ⟨W.heap.size, 2, none⟩ (.int .u64 z2)) (W.heap.size + 1) 64 [.int .i64 kd, .int .i64 kk, .slice ua un uc]) := Lib.hid (by
      refine ⟨((((((Kept.refl W).alloc _).alloc _).trans hk2).store (Nat.le_refl _) 0 _).store (Nat.le_refl _) 1 _).store (Nat.le_refl _) 2 _, ?_, ((hnx.other (by omega) 0 _).other (by omega) 1 _).other (by omega) 2 _⟩
      have := ((hbx.store 0 (.int .i64 z0)).store 1 (.int .u64 z1)).store 2 (.int .u64 z2)
      simpa using this)
    clear hbx hnx hk2
    go_wp2
    go_meet
    exact HS
  case rest =>
    obtain ⟨hkc, hrw, hnw⟩ := hcut.out
    have hsz : W.heap.size + 1 < wc.heap.size := hnw.lt
    have d0 := hrw.cell (i := 0) (by simp)
    have d1 := hrw.cell (i := 1) (by simp)
    have d2 := hrw.cell (i := 2) (by simp)
    have m0 := hnw.cell (i := 0) (by simp)
    have m1 := hnw.cell (i := 1) (by simp)
    have m2 := hnw.cell (i := 2) (by simp)
    simp only [List.getElem_cons_succ, List.getElem_cons_zero] at d0 d1 d2 m0 m1 m2
    have HKC := Lib.hid hkc
    clear hcut hkc hrw hnw HWO HND hc1
    rcases hkd with hkd | hkd | hkd | hkd
    · subst hkd
      have hex := HEX.out.2.2.2 (by trivial)
      by_cases hk1 : kk = 1
      · have hk1b : (kk == 1) = true := by simpa using hk1
        rw [if_pos hk1] at hex
        have HA := Lib.hid (HEM.out wc HKC.out)
        rw [← hex] at HA
        clear hk1 hex
        go_wp2_with (go_at_call 74; refine HA.out.mono ?_; rintro e w3 ⟨rfl, v', h3, h4⟩)
        refine bodyPost_end (results_none rfl _ _ _) rfl ?_
        exact ⟨rfl, v', h3, h4⟩
      · have hk1b : (kk == 1) = false := by simpa using hk1
        rw [if_neg hk1] at hex
        have HF := Lib.hid (HOUT.out wc HKC.out)
        have HX := Lib.hid hex
        clear hk1 hex
        go_wp2
        refine bodyPost_end (results_none rfl _ _ _) rfl ?_
        exact ⟨rfl, v, by rw [HX.out, List.append_nil]; exact HF.out, Frm.of_kept HKC.out⟩
    · subst hkd
      have hex := HEX.out.1 (by trivial)
      have HA := Lib.hid (HVO.out un wc (by omega) HKC.out)
      rw [HUN.out, ← hex, ← HUN.out] at HA
      clear hex
      go_wp2_with (go_at_call 133; refine HA.out.mono ?_; rintro e w3 ⟨rfl, v', h3, h4⟩)
      refine bodyPost_end (results_none rfl _ _ _) rfl ?_
      exact ⟨rfl, v', h3, h4⟩
    · subst hkd
      have hex := HEX.out.2.1 (by trivial)
      have HA := Lib.hid (HVO.out 1 wc (by omega) HKC.out)
      rw [← hex] at HA
      clear hex
      go_wp2_with (go_at_call 133; refine HA.out.mono ?_; rintro e w3 ⟨rfl, v', h3, h4⟩)
      refine bodyPost_end (results_none rfl _ _ _) rfl ?_
      exact ⟨rfl, v', h3, h4⟩
    · subst hkd
      obtain ⟨K, rfl⟩ := Int.eq_ofNat_of_zero_le (show 0 ≤ kk by have := HK4.out (by trivial); omega)
      have hK9 : K ≤ 16 := by have := HK4.out (by trivial); omega
      have hex := HEX.out.2.2.1 (by trivial)
      rw [Int.toNat_natCast] at hex
      have HA := Lib.hid (HVO.out K wc (by omega) HKC.out)
      rw [← hex] at HA
      clear hex
      go_wp2_with (go_at_call 133; refine HA.out.mono ?_; rintro e w3 ⟨rfl, v', h3, h4⟩)
      refine bodyPost_end (results_none rfl _ _ _) rfl ?_
      exact ⟨rfl, v', h3, h4⟩
end Go.Proofs.YteodabnjkikogaaGreat.Tr

/-
  Walks: truncate.run.
-/
namespace Go.Proofs.YteodabnjkikogaaGreat.Tr
open Go.RowKit

def TRes (w : World) (e : Ending) : Option (List Nat × List Nat) → Prop
  | none => e = .returned (.tuple #[.agg #[.slice none 0 0, .slice none 0 0], errV 4])
  | some p => ∃ kv fv, e = .returned (.tuple #[.agg #[kv, fv], errV 0]) ∧ IntsAt w kv (ofN (minK (p.1.map evW))) ∧ IntsAt w fv (ofN p.2)
theorem low_kept {w L W : World} {gl : Nat} (h : Kept w L) (hb : Below gl L W) (h1 : w.heap.size ≤ gl) (_h2 : gl ≤ L.heap.size) : Kept w W :=
  ⟨hb.os.trans h.os, hb.tape.trans h.tape, hb.output.trans h.output, Nat.le_trans h.size hb.size, fun k hk => (hb.block k (by omega)).trans (h.block k hk)⟩
theorem own_one (w : World) (B c : Nat) (hB : B ≤ w.heap.size) (hc : RowLt 152 c) : OwnRws (w.alloc (.cells #[.int .i64 (evW c), .int .u64 (loW c), .int .u64 (hiW c)] 103)) B (.slice (some ⟨w.heap.size, 0, none⟩) 1 1) [c] :=
  ⟨⟨by simp [rcells], .inr ⟨w.heap.size, 1, _, rfl, hB, heap_alloc_new w _, Nat.le_refl _, by unfold maxLen; omega, by simp, by simp [rcells]⟩⟩, by simp, by simpa using hc⟩
set_option maxRecDepth 100000 in
set_option maxHeartbeats 4000000 in
theorem trun_any (v : Value) (f : Fm) (V T bk : Nat) (kk : Int) (w : World) (hv : NodesAt w v f.nodes) (hok : Ok f V T) (hs : synK V T f = true) (hbk : w.cell? ⟨bk, 0, none⟩ = some (.int .i64 kk)) :
    Calls Tryz.prog 33 #[.agg #[.int .i64 V, v, .int .i64 T], .func (.func 62) #[] #[.pointer (some ⟨bk, 0, none⟩)]] w fun e w' => TRes w' e (topT V T (overP kk) f.nodes) ∧ Kept w w' := by
  have HNR := Lib.hid (fun i (hi : i < f.nodes.length) => node_read hv i hi)
  have HOK := Lib.hid hok
  have HMO := Lib.hid (fun i (hi : i < f.nodes.length) h => kind_mono hok hs i hi h)
  have HBK := Lib.hid hbk
  have hsh : ∃ a n c, v = .slice a n c := by obtain ⟨a, c, h, _⟩ := hv; exact ⟨a, _, c, h⟩
  obtain ⟨a, n, c, rfl⟩ := hsh
  have h24 := hok.v24
  have h128 := hok.n128
  have htl := hok.tlt
  have hc0 : RowLt 152 (cond V (T : Int)) := rowLt_mono (rowLt_cond (V := V) (m := 128) (by omega) h24) (by omega)
  have HPE := Lib.hid (pend_start hok (overP kk))
  have HW0 : Hid (∀ (W' : World) (gl : Nat), W'.cell? ⟨gl, 0, none⟩ = some (.int .i64 V) → Calls Tryz.prog 69 #[.pointer (some ⟨gl, 0, none⟩), .agg #[.int .i64 0, .int .u64 0, .int .u64 0], .int .i64 T] W' fun e w' => e = .returned (rowV (cond V (T : Int))) ∧ Kept W' w') := Lib.hid fun W' gl hc => by
    have := cadd_any gl 0 V (T : Int) W' hc (fun j hj => by simp at hj) h24 (by omega)
    rw [show withC V 0 (T : Int) = cond V (T : Int) by unfold withC; simp] at this
    exact this
  obtain ⟨c0, hc00⟩ : ∃ c0, c0 = cond V (T : Int) := ⟨_, rfl⟩
  rw [← hc00] at hc0 HPE HW0
  have HC0 := Lib.hid hc0
  obtain ⟨x0, hx0⟩ : ∃ x, x = evW c0 := ⟨_, rfl⟩
  obtain ⟨x1, hx1⟩ : ∃ x, x = loW c0 := ⟨_, rfl⟩
  obtain ⟨x2, hx2⟩ : ∃ x, x = hiW c0 := ⟨_, rfl⟩
  have HOW : Hid (∀ (W : World) (B : Nat), B ≤ W.heap.size → OwnRws (W.alloc (.cells #[.int .i64 x0, .int .u64 x1, .int .u64 x2] 103)) B (.slice (some ⟨W.heap.size, 0, none⟩) 1 1) [c0]) := Lib.hid fun W B hB => by rw [hx0, hx1, hx2]; exact own_one W B c0 hB hc0
  unfold rowV at HW0
  rw [← hx0, ← hx1, ← hx2] at HW0
  clear hv hok hs hc0 hc00 hx0 hx1 hx2 htl hbk
  go_enter Tryz.func33, Tryz.ntmps33
  go_wp2_with fail
  have hr0 : ∀ W : World, RowAt (W.alloc (.cells #[.int .i64 V, .slice a n c, .int .i64 T, .func (.func 62) #[] #[.pointer (some ⟨bk, 0, none⟩)], .slice none 0 0, .slice none 0 0, .slice none 0 0] 101)) W.heap.size 101 [.int .i64 V, .slice a n c, .int .i64 T, .func (.func 62) #[] #[.pointer (some ⟨bk, 0, none⟩)], .slice none 0 0, .slice none 0 0, .slice none 0 0] := fun W => by
    have := RowAt.made W #[.int .i64 V, .slice a n c, .int .i64 T, .func (.func 62) #[] #[.pointer (some ⟨bk, 0, none⟩)], .slice none 0 0, .slice none 0 0, .slice none 0 0] 101
    simpa using this
  refine (HW0.out _ (w.heap.size + 1 + 1) ?_).mono ?_
  · have h := (hr0 ((w.alloc (.cells #[.int .i64 V, .slice a n c, .int .i64 T] 24)).alloc (.cells #[.slice none 0 0, .slice none 0 0] 34))).cell (i := 0) (by simp)
    rw [show ((w.alloc (.cells #[.int .i64 V, .slice a n c, .int .i64 T] 24)).alloc (.cells #[.slice none 0 0, .slice none 0 0] 34)).heap.size = w.heap.size + 1 + 1 by simp] at h
    exact h
  rintro e w1 ⟨rfl, hk1⟩
  obtain ⟨gl, hgl⟩ : ∃ gl, gl = w.heap.size + 1 + 1 := ⟨_, rfl⟩
  have hr1 : RowAt w1 gl 101 [.int .i64 V, .slice a n c, .int .i64 T, .func (.func 62) #[] #[.pointer (some ⟨bk, 0, none⟩)], .slice none 0 0, .slice none 0 0, .slice none 0 0] := by
    rw [hgl]
    have := (hr0 _).kept hk1
    simpa using this
  have ht4 : RowAt w1 (w.heap.size + 1) 34 [.slice none 0 0, .slice none 0 0] := by
    have h := RowAt.made (w.alloc (.cells #[.int .i64 V, .slice a n c, .int .i64 T] 24)) #[.slice none 0 0, .slice none 0 0] 34
    have := (h.kept ((Kept.refl _).alloc _)).kept hk1
    simpa using this
  have HT1 := Lib.hid ht4
  have hkw : Kept w w1 := (((Kept.refl w).alloc _).alloc _).alloc _ |>.trans hk1
  have hsz1 := hk1.size
  simp at hsz1
  have f5 := hr1.free 5
  have d5 := hr1.cell (i := 5) (by simp)
  simp only [List.getElem_cons_succ, List.getElem_cons_zero] at d5
  have HR1 := Lib.hid hr1
  have HKW := Lib.hid hkw
  have HGL : Hid (gl = w.heap.size + 1 + 1 ∧ gl < w1.heap.size) := Lib.hid ⟨hgl, hr1.lt⟩
  have hgl1 : gl < w1.heap.size := hr1.lt
  clear hr1 hkw hk1 hr0 ht4
  rw [← hgl]
  clear hgl
  go_wp2
  obtain ⟨L1, hL1⟩ : ∃ L : World, L = (w1.setCell ⟨gl, 5, none⟩ (.slice (some ⟨w1.heap.size, 0, none⟩) 1 1)).alloc (.cells #[.int .i64 x0, .int .u64 x1, .int .u64 x2] 103) := ⟨_, rfl⟩
  rw [← hL1]
  have HR2 : Hid (RowAt L1 gl 101 [.int .i64 V, .slice a n c, .int .i64 T, .func (.func 62) #[] #[.pointer (some ⟨bk, 0, none⟩)], .slice none 0 0, .slice (some ⟨w1.heap.size, 0, none⟩) 1 1, .slice none 0 0]) := Lib.hid (by
    rw [hL1]
    have := (HR1.out.store 5 (.slice (some ⟨w1.heap.size, 0, none⟩) 1 1)).kept ((Kept.refl _).alloc (.cells #[.int .i64 x0, .int .u64 x1, .int .u64 x2] 103))
    simpa using this)
  have HM2 : Hid (RwsAt L1 (.slice (some ⟨w1.heap.size, 0, none⟩) 1 1) [c0]) := Lib.hid (by
    rw [hL1]
    have h := (HOW.out (w1.setCell ⟨gl, 5, none⟩ (.slice (some ⟨w1.heap.size, 0, none⟩) 1 1)) 0 (Nat.zero_le _)).at
    simpa using h)
  have HK2 : Hid (Kept w L1) := Lib.hid (by
    rw [hL1]
    exact (HKW.out.store (by have := HGL.out.1; omega) 5 _).alloc _)
  have HT2 : Hid (RowAt L1 (w.heap.size + 1) 34 [.slice none 0 0, .slice none 0 0]) := Lib.hid (by
    rw [hL1]
    exact (HT1.out.other (by have := HGL.out.1; omega) 5 _).kept ((Kept.refl _).alloc _))
  have hglL : w.heap.size + 1 < gl ∧ gl < L1.heap.size := by
    have h1 := HGL.out.1
    have h2 := HR2.out.lt
    omega
  have HGB := Lib.hid hglL
  obtain ⟨nl, hnl⟩ : ∃ nl, nl = f.nodes.length := ⟨_, rfl⟩
  have HNL := Lib.hid hnl
  have hbkw : bk < w.heap.size := World.block_lt_of_cell? w _ HBK.out
  have HBW := Lib.hid hbkw
  clear hL1 f5 d5 hgl1 hglL hnl hbkw hsz1
  go_loopg [8] nl (fun kx s8 wr => ∃ (M F : List Nat) (m : Nat) (rv mv fv : Value), m ≤ kx ∧ Hid (Pend V T f (overP kk) M F m) ∧ Hid (RowAt wr gl 101 [.int .i64 V, .slice a n c, .int .i64 T, .func (.func 62) #[] #[.pointer (some ⟨bk, 0, none⟩)], rv, mv, fv]) ∧ Hid (RwsAt wr mv M) ∧ Hid (OwnInts wr (gl + 1) fv (ofN F)) ∧ Hid (Below gl L1 wr))
  case atStart => exact ⟨[c0], [], _, _, _, _, Nat.le_of_eq HNL.out.symm, HPE, HR2, HM2, Lib.hid (OwnInts.nil _ _), Lib.hid (Below.refl _ _)⟩
  case round =>
    obtain ⟨wo, rfl⟩ : ∃ wo : World, wo = wr := ⟨_, rfl⟩
    obtain ⟨M, F, m, rv, mv, fv, hmk, HP, HR, HM, HF, HB⟩ := hrel
    have HKW : Hid (Kept w wo) := Lib.hid (low_kept HK2.out HB.out (by have := HGB.out; omega) (by have := HGB.out; omega))
    have hglo : gl < wo.heap.size := HR.out.lt
    have HSE := Lib.hid (settle_any gl bk (gl + 1) kk M F mv fv wo HR.out HM.out HP.out.len HF.out HP.out.lenF HP.out.mkF (HKW.out.cell HBK.out) (by omega) (by omega))
    have HT4 : Hid (RowAt wo (w.heap.size + 1) 34 [.slice none 0 0, .slice none 0 0]) := Lib.hid (HT2.out.same (HB.out.block _ HGB.out.1))
    have HTT : Hid (RowAt wo gl 101 [.int .i64 V, .slice a n c, .int .i64 T, .func (.func 62) #[] #[.pointer (some ⟨bk, 0, none⟩)], rv, mv, fv] → True) := Lib.hid fun _ => trivial
    clear HTT
    go_wp2_with fail
    refine HSE.out.mono ?_
    rintro e w2 hs
    unfold SPost at hs
    by_cases hbig : 1024 < (settleR (overP kk) M).length ∨ 1024 < (settleF (overP kk) M F).length
    · rw [if_pos hbig] at hs
      obtain ⟨rfl, hb2⟩ := hs
      have HN : Hid (topT V T (overP kk) f.nodes = none) := Lib.hid (HP.out.bad hbig)
      have ht2 : RowAt w2 (w.heap.size + 1) 34 [.slice none 0 0, .slice none 0 0] := HT4.out.same (hb2.block _ HGB.out.1)
      have HK3 : Hid (Kept w w2) := Lib.hid (low_kept HKW.out hb2 (by have := HGB.out; omega) (by omega))
      have g0 := ht2.cell (i := 0) (by simp)
      have g1 := ht2.cell (i := 1) (by simp)
      have g2 := ht2.free 0
      have g3 := ht2.free 1
      simp only [List.getElem_cons_succ, List.getElem_cons_zero] at g0 g1
      rw [errV_pos (by decide)]
      clear hbig hb2 ht2 HSE
      go_wp2
      refine bodyPost_ret (v := .tuple #[.agg #[.slice none 0 0, .slice none 0 0], errV 4]) ?_ rfl ⟨by rw [HN.out]; rfl, (HK3.out.store (by omega) 0 _).store (by omega) 1 _⟩
      simp [results, Tryz.results33, go_sem, g0, g1, errV]
    · rw [if_neg hbig] at hs
      obtain ⟨rfl, rv2, fv2, R, hperm, hr2, hor, hof, hfr⟩ := hs
      have HTS : Hid (TStand V T f (overP kk) R (settleF (overP kk) M F) m) := Lib.hid (HP.out.good R hperm hbig)
      have HB2 : Hid (Below gl wo w2) := Lib.hid (frm_low hfr hglo fun g hg => by have := (HF.out.1.lt g hg).1; omega)
      have hlr : R.length ≤ 1024 := by rw [hperm.length_eq]; omega
      obtain ⟨F2, hF2⟩ : ∃ F2, F2 = settleF (overP kk) M F := ⟨_, rfl⟩
      rw [← hF2] at HTS hof
      have HR2' := Lib.hid hr2
      have HOR := Lib.hid hor
      have HOF := Lib.hid hof
      obtain ⟨va, vc, hrv⟩ := hor.at.shape
      obtain ⟨ln, hln⟩ : ∃ ln, ln = R.length := ⟨_, rfl⟩
      rw [← hln] at hrv hlr
      subst hrv
      have HLN := Lib.hid hln
      have r4 := hr2.cell (i := 4) (by simp)
      simp only [List.getElem_cons_succ, List.getElem_cons_zero] at r4
      have hgl2 : gl < w2.heap.size := hr2.lt
      have hsz2 : wo.heap.size ≤ w2.heap.size := hfr.size
      rw [errV_zero]
      clear hbig hperm hr2 hor hof hfr hF2 hln HSE HP
      go_wp2
      go_loopg [8, 40] ln (fun kx s8 s40 wq => ∃ (k : Nat) (r : Int), s8 = .int .i64 r ∧ s40 = .int .i64 k ∧ k ≤ ln ∧ ln - k ≤ kx ∧ -1 ≤ r ∧ r ≤ 1000 ∧ Hid (GTop (R.take k) r) ∧ Hid (Kept w2 wq))
      case atStart => exact ⟨0, -1, rfl, rfl, Nat.zero_le _, by omega, by omega, by omega, Lib.hid GTop.nil, Lib.hid (Kept.refl _)⟩
      case round =>
        obtain ⟨k, r, rfl, rfl, hk, hkx, hr0, hr9, HG, HK⟩ := hrel
        by_cases hlt : k < ln
        · have hkl : k < R.length := by have := HLN.out; omega
          obtain ⟨b, o, rfl, hrg⟩ := (HOR.out.at.kept HK.out).get k hkl
          have hql := HOR.out.2.2 R[k] (List.getElem_mem _)
          have HS : Hid (∀ s, TopIs R[k] s → GTop (R.take (k + 1)) (max r s)) := Lib.hid fun s hs => by
            rw [List.take_succ_eq_append_getElem hkl]; exact HG.out.snoc hs
          have HNO : Hid (∀ W, Calls Tryz.prog 71 #[rowV R[k]] W fun e w' => (∃ r : Int, e = .returned (.int .i64 r) ∧ TopIs R[k] r ∧ -1 ≤ r ∧ r ≤ 1000) ∧ Kept W w') := Lib.hid fun W => tnode_any hql W
          obtain ⟨q, hqq⟩ : ∃ q, q = R[k] := ⟨_, rfl⟩
          rw [← hqq] at HS HNO hrg
          unfold rowV at HNO
          unfold rcells at hrg
          generalize evW q = z0 at *
          generalize loW q = z1 at *
          generalize hiW q = z2 at *
          have HRG := Lib.hid hrg
          have hkn : (k : Int) < (ln : Int) := by omega
          clear hrg hql hqq
          go_wp2_with (first | (with_reducible refine wpList_load_mid rfl 103 _ rfl b (o + k * 3) rfl _ _ HRG.out Tryz.underlying103 rfl (by kernel_rfl) ?_) | (go_at_call 71; refine (HNO.out _).mono ?_; rintro e w4 ⟨⟨s, rfl, hts, hs0, hs9⟩, hk4⟩; have HTS4 := Lib.hid hts; have HK4 := Lib.hid (((Kept.refl wr).alloc _).trans hk4); clear hts hk4))
          go_roundg (ln - (k + 1))
          case measure => omega
          case rel => exact ⟨k + 1, max r s, rfl, by go_num, by omega, Nat.le_refl _, by omega, by omega, Lib.hid (HS.out s HTS4.out), Lib.hid (HK.out.trans HK4.out)⟩
        · have hke : k = ln := by omega
          have HGR : Hid (GTop R r) := Lib.hid (by have h := HG.out; rw [hke, HLN.out, List.take_length] at h; exact h)
          have HRQ : Hid (RowAt wr gl 101 [.int .i64 V, .slice a n c, .int .i64 T, .func (.func 62) #[] #[.pointer (some ⟨bk, 0, none⟩)], .slice va ln vc, mv, fv2]) := Lib.hid (HR2'.out.kept HK.out)
          have r4 := HRQ.out.cell (i := 4) (by simp)
          have f5 := HRQ.out.free 5
          have r5 := HRQ.out.cell (i := 5) (by simp)
          simp only [List.getElem_cons_succ, List.getElem_cons_zero] at r4 r5
          have hszq := HK.out.size
          clear hke
          by_cases hneg : r < 0
          · have HDN : Hid (∃ R', topT V T (overP kk) f.nodes = some (R', F2) ∧ R.Perm R') := Lib.hid (HTS.out.done fun c hc j hj => by have := HGR.out.1 c hc j hj; omega)
            go_wp2
            obtain ⟨wq, rfl⟩ : ∃ wq : World, wq = wr := ⟨_, rfl⟩
            have HKQ := HK
            go_loopg [13, 87] ln (fun kx s13 s87 wz => ∃ (k : Nat) (vo : Value), s13 = vo ∧ s87 = .int .i64 k ∧ k ≤ ln ∧ ln - k ≤ kx ∧ Hid (OwnInts wz wq.heap.size vo (ofN ((R.take k).map evW))) ∧ Hid (Kept wq wz))
            case atStart => exact ⟨0, _, rfl, rfl, Nat.zero_le _, by omega, Lib.hid (by simpa [ofN] using OwnInts.nil _ _), Lib.hid (Kept.refl _)⟩
            case round =>
              obtain ⟨k, vo, rfl, rfl, hk, hkx, HO, HKZ⟩ := hrel
              have hsz := HKZ.out.size
              obtain ⟨ao, no, co, hvo⟩ := HO.out.ints.shape
              subst hvo
              by_cases hlt : k < ln
              · have hkl : k < R.length := by have := HLN.out; omega
                obtain ⟨b, o, rfl, hrg⟩ := (HOR.out.at.kept (HKQ.out.trans HKZ.out)).get k hkl
                have hnext : ofN ((R.take (k + 1)).map evW) = ofN ((R.take k).map evW) ++ [((evW R[k] : Nat) : Int)] := by unfold ofN; rw [List.take_succ_eq_append_getElem hkl, List.map_append, List.map_append]; rfl
                have hlen : (ofN ((R.take k).map evW)).length = k := by simp [ofN]; omega
                have hkn : (k : Int) < (ln : Int) := by omega
                obtain ⟨q, hqq⟩ : ∃ q, q = R[k] := ⟨_, rfl⟩
                rw [← hqq] at hrg hnext
                unfold rcells at hrg
                have HRG := Lib.hid hrg
                generalize evW q = z0 at *
                generalize loW q = z1 at *
                generalize hiW q = z2 at *
                have HNX := Lib.hid hnext
                clear hrg hqq hnext
                go_wp2_with (first | (with_reducible refine wpList_load_mid rfl 103 _ rfl b (o + k * 3) rfl _ _ HRG.out Tryz.underlying103 rfl (by kernel_rfl) ?_) | (at_builtin; refine app_int rfl _ _ rfl wq.heap.size _ (ofN ((R.take k).map evW)) rfl (HO.out.kept (((Kept.refl _).alloc _).alloc _)) _ (z0 : Int) rfl (by simp) (by rw [hlen]; omega) (by simp; omega) ?_; intro v7 w7 hown7 _ hb7; have O7 := Lib.hid hown7; have HB7 := Lib.hid hb7; clear hown7 hb7))
                go_roundg (ln - (k + 1))
                case measure => omega
                case rel => exact ⟨k + 1, v7, rfl, by go_num, by omega, Nat.le_refl _, Lib.hid (by rw [HNX.out]; exact O7.out), Lib.hid (((HKZ.out.alloc _).alloc _).app HB7.out)⟩
              · have hke : k = ln := by omega
                have HFI : Hid (IntsAt wr (.slice ao no co) (ofN (R.map evW))) := Lib.hid (by have h := HO.out; rw [hke, HLN.out, List.take_length] at h; exact h.ints)
                have HMIN : Hid (∀ W, Kept wr W → Calls Tryz.prog 75 #[.slice ao no co] W fun e w' => ∃ v', e = .returned v' ∧ OwnSets w' W.heap.size v' (minK (R.map evW)) ∧ Kept W w') := Lib.hid fun W hk => tminimal_any _ _ W (fun t ht => by obtain ⟨r, _, rfl⟩ := List.mem_map.1 ht; exact evW_lt r) (HFI.out.kept hk) (by simp; have := HLN.out; omega)
                have HRZ : Hid (RowAt wr gl 101 [.int .i64 V, .slice a n c, .int .i64 T, .func (.func 62) #[] #[.pointer (some ⟨bk, 0, none⟩)], .slice va ln vc, mv, fv2]) := Lib.hid (HRQ.out.kept HKZ.out)
                have HTZ : Hid (RowAt wr (w.heap.size + 1) 34 [.slice none 0 0, .slice none 0 0]) := Lib.hid (((HT4.out.same (HB2.out.block _ HGB.out.1)).kept HKQ.out).kept HKZ.out)
                have HKA : Hid (Kept w wr) := Lib.hid (((low_kept HKW.out HB2.out (by have := HGB.out; omega) (by omega)).trans HKQ.out).trans HKZ.out)
                obtain ⟨f0, fn, fc, hfv⟩ := HOF.out.ints.shape
                subst hfv
                have HFV : Hid (IntsAt wr (.slice f0 fn fc) (ofN F2)) := Lib.hid ((HOF.out.ints.kept HKQ.out).kept HKZ.out)
                have r6 := HRZ.out.cell (i := 6) (by simp)
                simp only [List.getElem_cons_succ, List.getElem_cons_zero] at r6
                have r6' := (Kept.refl wr).drew.cell r6
                clear hke HO
                go_wp2
                go_region_with (go_at_call 75; (with_reducible refine (HMIN.out _ (by first | exact Kept.refl _ | exact (Kept.refl _).drew)).mono ?_); rintro e w9 ⟨v9, rfl, hs9, hk9⟩; obtain ⟨a9, n9, c9, rfl⟩ := hs9.1.ints.shape; have HS9 := Lib.hid hs9; have HK9 := Lib.hid hk9; have e6 := hk9.cell r6'; have ht9 := (HTZ.out.kept (Kept.refl _).drew).kept hk9; have g0 := ht9.cell (i := 0) (by simp); have g1 := ht9.cell (i := 1) (by simp); have g2 := ht9.free 0; have g3 := ht9.free 1; simp only [List.getElem_cons_succ, List.getElem_cons_zero] at g0 g1; clear hs9 hk9 ht9)
                all_goals go_wp2
                all_goals
                  have HW9 : Hid (Kept wr w9) := Lib.hid (by first | exact HK9.out | exact (Kept.refl _).drew.trans HK9.out)
                  have hsw := HW9.out.size
                  have hlt4 : w.heap.size + 1 < wo.heap.size := by have := HGB.out; omega
                  refine bodyPost_ret (v := .tuple #[.agg #[.slice a9 n9 c9, .slice f0 fn fc], errV 0]) ?_ rfl ⟨?_, ((HKA.out.trans HW9.out).store (by omega) 0 _).store (by omega) 1 _⟩
                  · simp [results, Tryz.results33, go_sem, g0, g1, errV]
                  · obtain ⟨R', hR, hp⟩ := HDN.out
                    rw [hR]
                    refine ⟨_, _, rfl, ?_, ?_⟩
                    · have h := HS9.out.1
                      rw [minK_perm (hp.map evW)] at h
                      exact (ints_frm (ints_frm (gl := w.heap.size + 1) h (by first | omega | (simp; omega)) (frm_store (Kept.refl _) 0 _)) (by first | omega | (simp; omega)) (frm_store (Kept.refl _) 1 _)).ints
                    · have h := ((HOF.out.kept HKQ.out).kept HKZ.out).kept HW9.out
                      exact (ints_frm (ints_frm (gl := w.heap.size + 1) h hlt4 (frm_store (Kept.refl _) 0 _)) hlt4 (frm_store (Kept.refl _) 1 _)).ints
          · obtain ⟨i, rfl, hib⟩ := HGR.out.2.resolve_left (by omega)
            obtain ⟨wq, rfl⟩ : ∃ wq : World, wq = wr := ⟨_, rfl⟩
            have HKQ := HK
            have HHI : Hid ((∃ c ∈ R, c.testBit (24 + i) = true) ∧ ∀ c ∈ R, ∀ j, c.testBit (24 + j) = true → j ≤ i) := Lib.hid ⟨hib, fun c hc j hj => by have := HGR.out.1 c hc j hj; omega⟩
            obtain ⟨him, hmk2, _⟩ := HTS.out.at hib HHI.out.2
            have hle := HTS.out.le
            have hil : i < f.nodes.length := by omega
            obtain ⟨b, o, n', c', ua, un, uc, hveq, hn', hnr⟩ := HNR.out i hil
            injection hveq with q1 q2 q3
            subst q1
            rw [← q2, ← HNL.out] at hn'
            have hkd := HMO.out i hil hmk2
            have hok := HOK.out
            have h128' := hok.n128
            have hargs : ∀ a ∈ f.nodes[i].args, 0 ≤ a ∧ a < (V : Int) + 128 := fun a ha => by have := hok.args i hil a ha; omega
            have h16 : f.nodes[i].args.length ≤ 16 := argsOk_le (hok.argc i hil)
            have hk4 : f.nodes[i].kind = 4 → 1 ≤ f.nodes[i].k ∧ f.nodes[i].k ≤ f.nodes[i].args.length := fun h4 => by
              have := hok.arity i hil
              unfold chkK at this
              rw [if_neg (by omega), if_pos h4] at this
              split at this
              · omega
              · cases this
            have hx : f.nodes.getD i noNd = f.nodes[i] := by simp [List.getD_eq_getElem?_getD, hil]
            obtain ⟨x, hxx⟩ : ∃ x, x = f.nodes[i] := ⟨_, rfl⟩
            rw [← hxx] at hnr hkd hargs h16 hk4 hx
            have HX := Lib.hid hx
            have hin : i < n := by rw [hn', HNL.out]; exact hil
            have hi128 : i < 128 := by omega
            have hwg : w.heap.size ≤ gl := by have := HGB.out; omega
            have HRE : Hid (∀ W q u LL, Kept w W → gl ≤ W.heap.size → CutAt (.int .i64 V) (.slice (some ⟨b, o, none⟩) n c) (.int .i64 T) (.func (.func 62) #[] #[.pointer (some ⟨bk, 0, none⟩)]) (.slice va ln vc) fv2 W gl gl u LL → LL.length ≤ 4097 → RowLt 152 q → Calls Tryz.prog 73 #[.pointer (some ⟨gl, 0, none⟩), rowV q, .int .i64 i] W fun e w' => e = .returned (.tuple #[]) ∧ ∃ v', CutAt (.int .i64 V) (.slice (some ⟨b, o, none⟩) n c) (.int .i64 T) (.func (.func 62) #[] #[.pointer (some ⟨bk, 0, none⟩)]) (.slice va ln vc) fv2 w' gl gl v' ((LL ++ expandK V x i q).take 4097) ∧ Frm gl u v' W w') := Lib.hid fun W q u LL hk hg2 hL hl hq =>
              replace_any gl gl V i q b o n c x ua un uc u LL W (Nat.le_refl _) h24 hg2 hL hl hq hi128 hin (hnr W hk).1 (fun w' hb => (hnr w' (low_kept hk hb hwg hg2)).2) hargs h16 hkd hk4
            clear hnr hkd hargs h16 hk4 hx hxx hok hmk2 q2 q3 hn' hib hil
            have HKWQ : Hid (Kept w wq) := Lib.hid ((low_kept HKW.out HB2.out hwg (by omega)).trans HKQ.out)
            have hglq : gl < wq.heap.size := HRQ.out.lt
            go_wp2
            obtain ⟨L3, hL3⟩ : ∃ L : World, L = wq.setCell ⟨gl, 5, none⟩ (.slice none 0 0) := ⟨_, rfl⟩
            have HFR3 : Hid (Frm gl (.slice none 0 0) (.slice none 0 0) wq L3) := Lib.hid (by rw [hL3]; exact frm_store (Kept.refl _) 5 _)
            have HR3 : Hid (RowAt L3 gl 101 [.int .i64 V, .slice (some ⟨b, o, none⟩) n c, .int .i64 T, .func (.func 62) #[] #[.pointer (some ⟨bk, 0, none⟩)], .slice va ln vc, .slice none 0 0, fv2]) := Lib.hid (by rw [hL3]; have := HRQ.out.store 5 (.slice none 0 0); simpa using this)
            rw [← hL3]
            have hsz3 := HFR3.out.size
            have HB3 : Hid (Below gl wo L3) := Lib.hid ((HB2.out.trans (HKQ.out.mono (by omega))).trans (frm_low HFR3.out hglq (by simp [Value.ownBlock])))
            have HOR3 : Hid (OwnRws L3 wo.heap.size (.slice va ln vc) R) := Lib.hid (rws_frm (HOR.out.kept HKQ.out) hglo HFR3.out)
            have HOF3 : Hid (OwnInts L3 wo.heap.size fv2 (ofN F2)) := Lib.hid (ints_frm (HOF.out.kept HKQ.out) hglo HFR3.out)
            clear hL3 r4 r5 f5
            go_loopg [59] ln (fun kx s59 wz => ∃ (k : Nat) (vk : Value), s59 = .int .i64 k ∧ k ≤ ln ∧ ln - k ≤ kx ∧ Hid (CutAt (.int .i64 V) (.slice (some ⟨b, o, none⟩) n c) (.int .i64 T) (.func (.func 62) #[] #[.pointer (some ⟨bk, 0, none⟩)]) (.slice va ln vc) fv2 wz gl gl vk ((expK V x i (R.take k)).take 4097)) ∧ Hid (Frm gl (.slice none 0 0) vk L3 wz))
            case atStart => exact ⟨0, _, rfl, Nat.zero_le _, by omega, Lib.hid ⟨HR3.out, by simpa [expK] using OwnRws.nil _ _⟩, Lib.hid (Frm.of_kept (Kept.refl _))⟩
            case round =>
              obtain ⟨k, vk, rfl, hk, hkx, HLI, HFI⟩ := hrel
              have hszi := HFI.out.size
              have HBI : Hid (Below gl wo wr) := Lib.hid (HB3.out.trans (frm_low HFI.out (by omega) (by simp [Value.ownBlock])))
              have HKI : Hid (Kept w wr) := Lib.hid (low_kept HKW.out HBI.out hwg (by omega))
              by_cases hlt : k < ln
              · have hkl : k < R.length := by have := HLN.out; omega
                have hrows := (rws_frm HOR3.out hglo HFI.out).at
                obtain ⟨b2, o2, rfl, hrg⟩ := hrows.get k hkl
                have hql := hrows.lt R[k] (List.getElem_mem _)
                have hnext := expK_take V x i R k hkl
                obtain ⟨q, hqq⟩ : ∃ q, q = R[k] := ⟨_, rfl⟩
                rw [← hqq] at hrg hql hnext
                unfold expR at hnext
                have hlen : ((expK V x i (R.take k)).take 4097).length ≤ 4097 := by rw [List.length_take]; omega
                have HHAS : Hid (∀ W, Calls Tryz.prog 72 #[rowV q, .int .i64 i] W fun e w' => e = .returned (.bool (q.testBit (24 + i))) ∧ Kept W w') := Lib.hid fun W => thas_any hql i hi128 W
                unfold rowV at HHAS
                have hkn : (k : Int) < (ln : Int) := by omega
                cases hq : q.testBit (24 + i) with
                | true =>
                  rw [hq] at hnext HHAS
                  rw [if_pos rfl] at hnext
                  have HE2 : Hid (∀ W, Kept wr W → Calls Tryz.prog 73 #[.pointer (some ⟨gl, 0, none⟩), .agg #[.int .i64 (evW q), .int .u64 (loW q), .int .u64 (hiW q)], .int .i64 i] W fun e w' => e = .returned (.tuple #[]) ∧ ∃ v', Hid (CutAt (.int .i64 V) (.slice (some ⟨b, o, none⟩) n c) (.int .i64 T) (.func (.func 62) #[] #[.pointer (some ⟨bk, 0, none⟩)]) (.slice (some ⟨b2, o2, none⟩) ln vc) fv2 w' gl gl v' ((expK V x i (R.take (k + 1))).take 4097)) ∧ Hid (Frm gl (.slice none 0 0) v' L3 w')) := Lib.hid fun W hk => by
                    have := HRE.out W q vk _ (HKI.out.trans hk) (by have := hk.size; omega) (CutAt.kept HLI.out hk) hlen hql
                    rw [take_app, ← hnext] at this
                    exact this.mono fun _ _ ⟨h1, v', h2, h3⟩ => ⟨h1, v', Lib.hid h2, Lib.hid ((HFI.out.trans (Frm.of_kept hk)).trans h3)⟩
                  have HRG : Hid (wr.rangeAt b2 (o2 + k * 3) [.int .i64 (evW q), .int .u64 (loW q), .int .u64 (hiW q)]) := Lib.hid hrg
                  generalize evW q = z0 at *
                  generalize loW q = z1 at *
                  generalize hiW q = z2 at *
                  clear hrg hql hnext hqq hrows hq HRE HLI HFI hlen
                  go_wp2_with (first | (with_reducible refine wpList_load_mid rfl 103 _ rfl b2 (o2 + k * 3) rfl _ _ HRG.out Tryz.underlying103 rfl (by kernel_rfl) ?_) | (go_at_call 72; refine (HHAS.out _).mono ?_; rintro e w4 ⟨rfl, hk4⟩; have b0 := hk4.cell (p := ⟨wr.heap.size, 0, none⟩) (v := .int .i64 z0) (by simp); have b1 := hk4.cell (p := ⟨wr.heap.size, 1, none⟩) (v := .int .u64 z1) (by simp); have b2 := hk4.cell (p := ⟨wr.heap.size, 2, none⟩) (v := .int .u64 z2) (by simp); have HK4 := Lib.hid (((Kept.refl wr).alloc _).trans hk4); clear hk4) | (go_at_call 73; refine (HE2.out _ HK4.out).mono ?_; rintro e w5 ⟨rfl, v', h3, h4⟩))
                  go_roundg (ln - (k + 1))
                  case measure => omega
                  case rel => exact ⟨k + 1, v', by go_num, by omega, Nat.le_refl _, h3, h4⟩
                | false =>
                  rw [hq] at hnext HHAS
                  rw [if_neg (by simp)] at hnext
                  have HE2 : Hid (∀ W, Kept wr W → Calls Tryz.prog 74 #[.pointer (some ⟨gl, 0, none⟩), .agg #[.int .i64 (evW q), .int .u64 (loW q), .int .u64 (hiW q)]] W fun e w' => e = .returned (.tuple #[]) ∧ ∃ v', Hid (CutAt (.int .i64 V) (.slice (some ⟨b, o, none⟩) n c) (.int .i64 T) (.func (.func 62) #[] #[.pointer (some ⟨bk, 0, none⟩)]) (.slice (some ⟨b2, o2, none⟩) ln vc) fv2 w' gl gl v' ((expK V x i (R.take (k + 1))).take 4097)) ∧ Hid (Frm gl (.slice none 0 0) v' L3 w')) := Lib.hid fun W hk => by
                    have := emit_any gl gl q vk _ W (CutAt.kept HLI.out hk) hql hlen (Nat.le_refl _)
                    rw [addK_take hlen, take_app, ← hnext] at this
                    exact this.mono fun _ _ ⟨h1, v', h2, h3⟩ => ⟨h1, v', Lib.hid h2, Lib.hid ((HFI.out.trans (Frm.of_kept hk)).trans h3)⟩
                  have HRG : Hid (wr.rangeAt b2 (o2 + k * 3) [.int .i64 (evW q), .int .u64 (loW q), .int .u64 (hiW q)]) := Lib.hid hrg
                  generalize evW q = z0 at *
                  generalize loW q = z1 at *
                  generalize hiW q = z2 at *
                  clear hrg hql hnext hqq hrows hq HRE HLI HFI hlen
                  go_wp2_with (first | (with_reducible refine wpList_load_mid rfl 103 _ rfl b2 (o2 + k * 3) rfl _ _ HRG.out Tryz.underlying103 rfl (by kernel_rfl) ?_) | (go_at_call 72; refine (HHAS.out _).mono ?_; rintro e w4 ⟨rfl, hk4⟩; have b0 := hk4.cell (p := ⟨wr.heap.size, 0, none⟩) (v := .int .i64 z0) (by simp); have b1 := hk4.cell (p := ⟨wr.heap.size, 1, none⟩) (v := .int .u64 z1) (by simp); have b2 := hk4.cell (p := ⟨wr.heap.size, 2, none⟩) (v := .int .u64 z2) (by simp); have HK4 := Lib.hid (((Kept.refl wr).alloc _).trans hk4); clear hk4) | (go_at_call 74; refine (HE2.out _ HK4.out).mono ?_; rintro e w5 ⟨rfl, v', h3, h4⟩))
                  go_roundg (ln - (k + 1))
                  case measure => omega
                  case rel => exact ⟨k + 1, v', by go_num, by omega, Nat.le_refl _, h3, h4⟩
              · have hke : k = ln := by omega
                have HLE : Hid (CutAt (.int .i64 V) (.slice (some ⟨b, o, none⟩) n c) (.int .i64 T) (.func (.func 62) #[] #[.pointer (some ⟨bk, 0, none⟩)]) (.slice va ln vc) fv2 wr gl gl vk ((expK V x i R).take 4097)) := Lib.hid (by have h := HLI.out; rw [hke, HLN.out, List.take_length] at h; rw [HLN.out]; exact h)
                have c5 := HLE.out.1.cell (i := 5) (by simp)
                simp only [List.getElem_cons_succ, List.getElem_cons_zero] at c5
                obtain ⟨vka, vkc, hvk⟩ := HLE.out.2.at.shape
                obtain ⟨n2, hn2⟩ : ∃ n2, n2 = ((expK V x i R).take 4097).length := ⟨_, rfl⟩
                rw [← hn2] at hvk
                subst hvk
                have HN2 := Lib.hid hn2
                have hn2b : n2 ≤ 4097 := by rw [hn2, List.length_take]; omega
                clear hke hn2 HLI HRE
                by_cases hbig : 4096 < n2
                · have hbig' : (n2 : Int) > 4096 := by omega
                  have HNO : Hid (topT V T (overP kk) f.nodes = none) := Lib.hid (HTS.out.full HHI.out.1 HHI.out.2 (by rw [HX.out]; have := HN2.out; rw [List.length_take] at this; omega))
                  have ht4 := HT4.out.same (HBI.out.block _ HGB.out.1)
                  have g0 := ht4.cell (i := 0) (by simp)
                  have g1 := ht4.cell (i := 1) (by simp)
                  have g2 := ht4.free 0
                  have g3 := ht4.free 1
                  simp only [List.getElem_cons_succ, List.getElem_cons_zero] at g0 g1
                  clear ht4 HLE
                  go_wp2
                  refine bodyPost_ret (v := .tuple #[.agg #[.slice none 0 0, .slice none 0 0], errV 4]) ?_ rfl ⟨by rw [HNO.out]; rfl, (HKI.out.store (by omega) 0 _).store (by omega) 1 _⟩
                  simp [results, Tryz.results33, go_sem, g0, g1, errV]
                · have hbig' : ¬ (n2 : Int) > 4096 := by omega
                  have hfull : (expK V x i R).length ≤ 4096 := by have := HN2.out; rw [List.length_take] at this; omega
                  have HPN := Lib.hid (pend_next HOK.out HTS.out HHI.out.1 HHI.out.2 (by rw [HX.out]; exact hfull))
                  rw [HX.out] at HPN
                  have HLE2 : Hid (CutAt (.int .i64 V) (.slice (some ⟨b, o, none⟩) n c) (.int .i64 T) (.func (.func 62) #[] #[.pointer (some ⟨bk, 0, none⟩)]) (.slice va ln vc) fv2 wr gl gl (.slice vka n2 vkc) (expK V x i R)) := Lib.hid (by have h := HLE.out; rw [List.take_of_length_le (by omega)] at h; exact h)
                  clear hfull HLE
                  go_wp2
                  go_roundg i
                  case measure => omega
                  case rel => exact ⟨expK V x i R, F2, i, _, _, _, Nat.le_refl _, Lib.hid HPN.out.2, Lib.hid HLE2.out.1, Lib.hid HLE2.out.2.at, Lib.hid ((ints_frm HOF3.out hglo HFI.out).mono (by omega)), Lib.hid (HB.out.trans HBI.out)⟩
end Go.Proofs.YteodabnjkikogaaGreat.Tr
