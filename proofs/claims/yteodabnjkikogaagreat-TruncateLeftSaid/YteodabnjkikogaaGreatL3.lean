import Derived.WalkKit
import Derived.WalkSpells
import Derived.WalkLawsBesides
import Derived.Deep.QuietTactic
import Derived.BigQuiet
import Derived.Lib.Hide
import Derived.Shelf.Abstract
import Derived.Deep.RegionWith
import Derived.Laws.AppendOwnNone
import Derived.Lib.AppendZerosOnto
import Derived.Lib.SliceRun
import Derived.Lib.SlicesCompact
import Derived.Shelf.SlSortCmp.NoneTotal
import Derived.Maps.OwnOps
import Derived.Maps.OwnSet
import Derived.Maps.Views
import Derived.Deep.MidRow
import Derived.Deep.RegionHeld3
import Derived.Deep.AppendLies
import Derived.Deep.RegionLaw
import Derived.IntWalk
import Derived.StillTailTactics
import Derived.RegionTactic
import Derived.BigRegion
import Derived.ChangeAlike
import Derived.Sort.LotD2
import Derived.Sort.LotA
import Derived.Shelf.SlSortCmp.PdqK
import Derived.Test.YteodabnjkikogaaGreatL2
import Derived.Deep.DeepCutAuto
import Derived.Test.YteodabnjkikogaaGreatShelf
import Derived.Lib.ItoaNum
import Derived.Deep.LoopGhost
import Derived.Test.YteodabnjkikogaaGreatL1
import Derived.ProofKit
import Derived.OpenShut
import Derived.SizedLaws
import Derived.Lib.SmallJoins
import Derived.Deep.Slices
import Derived.Deep.Fields
import Derived.Deep.Strs
import Derived.Carry
/-
  Walks over a program that is a variable: symMerge of slices.SortStableFunc at the rows of topdown, whole.
-/
namespace Go.Proofs.YteodabnjkikogaaGreat
open Go.Shelf Go.RowKit Go.Lib Go.Sort
section
variable {P : Program} {α : Type} [Inhabited α]
theorem Rot.right (a b : Nat) (d : Array α) : Rot a b b d d := ⟨permIn_refl _ _ _, fun x => (rot_right a b (atA d) x).symm⟩
theorem Mrg.triv {lt : α → α → Bool} {a b : Nat} {d : Array α} (h : SortedIn lt a b d) : Mrg lt a b d d := ⟨permIn_refl _ _ _, h⟩
/-- The search of symMerge: what is known in the range that is still open. -/
structure Srch (lt : α → α → Bool) (p s0 r0 s r : Nat) (d : Array α) : Prop where
  a : s0 ≤ s
  b : s ≤ r
  c : r ≤ r0
  lo : ∀ x, s0 ≤ x → x < s → lt d[p - x]! d[x]! = false
  hi : ∀ x, r ≤ x → x < r0 → lt d[p - x]! d[x]! = true
/-- The bounds of the range. -/
def Ends (a m b mid s0 r0 : Nat) : Prop := (mid < m ∧ s0 = mid + m - b ∧ r0 = mid) ∨ (m ≤ mid ∧ s0 = a ∧ r0 = m)
theorem Srch.up {lt : α → α → Bool} (hO : SWO lt) {a m b mid s0 r0 s r c : Nat} {d : Array α} (h : Srch lt (mid + m - 1) s0 r0 s r d) (he : Ends a m b mid s0 r0) (_ham : a < m) (hmb : m < b) (hmid : mid = (a + b) / 2) (hl : SortedIn lt a m d) (hr : SortedIn lt m b d) (h1 : s ≤ c) (h2 : c < r) (hv : lt d[mid + m - 1 - c]! d[c]! = false) : Srch lt (mid + m - 1) s0 r0 (c + 1) r d := by
  have ha := h.a; have hb := h.b; have hc := h.c
  refine ⟨by omega, by omega, hc, fun x hx1 hx2 => ?_, h.hi⟩
  have e1 : a ≤ x := by rcases he with he | he <;> omega
  have e2 : c < m := by rcases he with he | he <;> omega
  have e3 : m ≤ mid + m - 1 - c := by rcases he with he | he <;> omega
  have e4 : mid + m - 1 - x < b := by rcases he with he | he <;> omega
  exact le_trans' hO (le_trans' hO (sorted_le hO hl e1 (show x ≤ c by omega) e2) hv) (sorted_le hO hr e3 (show mid + m - 1 - c ≤ mid + m - 1 - x by omega) e4)
theorem Srch.down {lt : α → α → Bool} (hO : SWO lt) {a m b mid s0 r0 s r c : Nat} {d : Array α} (h : Srch lt (mid + m - 1) s0 r0 s r d) (he : Ends a m b mid s0 r0) (_ham : a < m) (hmb : m < b) (hmid : mid = (a + b) / 2) (hl : SortedIn lt a m d) (hr : SortedIn lt m b d) (h1 : s ≤ c) (h2 : c < r) (hv : lt d[mid + m - 1 - c]! d[c]! = true) : Srch lt (mid + m - 1) s0 r0 s c d := by
  have ha := h.a; have hb := h.b; have hc := h.c
  refine ⟨ha, h1, by omega, h.lo, fun x hx1 hx2 => ?_⟩
  have e1 : a ≤ c := by rcases he with he | he <;> omega
  have e2 : x < m := by rcases he with he | he <;> omega
  have e3 : m ≤ mid + m - 1 - x := by rcases he with he | he <;> omega
  have e4 : mid + m - 1 - c < b := by rcases he with he | he <;> omega
  cases hx : lt d[mid + m - 1 - x]! d[x]! with
  | true => rfl
  | false =>
    have := le_trans' hO (le_trans' hO (sorted_le hO hl e1 hx1 e2) hx) (sorted_le hO hr e3 (show mid + m - 1 - x ≤ mid + m - 1 - c by omega) e4)
    rw [this] at hv; cases hv
theorem Srch.cut {lt : α → α → Bool} {a m b mid s0 r0 s : Nat} {d : Array α} (h : Srch lt (mid + m - 1) s0 r0 s s d) (he : Ends a m b mid s0 r0) (ham : a < m) (hmb : m < b) (hmid : mid = (a + b) / 2) : Cutd lt a m b mid s d := by
  have ha := h.a; have hc := h.c
  refine ⟨by rcases he with he | he <;> omega, by rcases he with he | he <;> omega, by rcases he with he | he <;> omega, by rcases he with he | he <;> omega, by rcases he with he | he <;> omega, ?_, ?_⟩
  · by_cases e : s = s0
    · rcases he with he | he
      · exact .inl ⟨he.1, by omega⟩
      · exact .inr (.inl ⟨he.1, by omega⟩)
    · have := h.lo (s - 1) (by omega) (by omega)
      rw [show mid + m - 1 - (s - 1) = mid + m - s by rcases he with he | he <;> omega] at this
      exact .inr (.inr ⟨by rcases he with he | he <;> omega, by rcases he with he | he <;> omega, this⟩)
  · by_cases e : s = r0
    · rcases he with he | he
      · exact .inl ⟨he.1, by omega⟩
      · exact .inr (.inl ⟨he.1, by omega⟩)
    · have := h.hi s (Nat.le_refl _) (by omega)
      rw [show mid + m - 1 - s = mid + m - s - 1 by omega] at this
      exact .inr (.inr ⟨by rcases he with he | he <;> omega, by rcases he with he | he <;> omega, this⟩)
/-- The parts behind the turn are sorted. -/
theorem Rot.sorted {lt : α → α → Bool} {a m b mid s : Nat} {d d1 : Array α} (hR : Rot s m (mid + m - s) d d1) (hc : Cutd lt a m b mid s d) (hl : SortedIn lt a m d) (hr : SortedIn lt m b d) :
    SortedIn lt a s d1 ∧ SortedIn lt s mid d1 ∧ SortedIn lt mid (mid + m - s) d1 ∧ SortedIn lt (mid + m - s) b d1 := by
  obtain ⟨c1, c2, c3, c4, c5, _, _⟩ := hc
  refine ⟨fun i j hi hij hj => ?_, fun i j hi hij hj => ?_, fun i j hi hij hj => ?_, fun i j hi hij hj => ?_⟩ <;> rw [hR.2, hR.2] <;> unfold rotF atA
  · rw [if_neg (by omega), if_neg (by omega), if_neg (by omega), if_neg (by omega)]
    exact hl i j hi hij (by omega)
  · rw [if_pos (by omega), if_pos (by omega)]
    exact hr _ _ (by omega) (by omega) (by omega)
  · rw [if_neg (by omega), if_pos (by omega), if_neg (by omega), if_pos (by omega)]
    exact hl _ _ (by omega) (by omega) (by omega)
  · rw [if_neg (by omega), if_neg (by omega), if_neg (by omega), if_neg (by omega)]
    exact hr i j (by omega) hij hj
set_option maxHeartbeats 16000000 in
set_option maxRecDepth 1000000 in
theorem symMerge_o (k : Nat) (L : StL P k) (enc : α → List Value) (cf : α → α → Int) (hO : SWO (ltOf cf)) (g : Nat) (cb : Array Value) (eg : ∀ args w, (callFunc g args).run P w = .ok (.enter g args) w) (blk off cap : Nat) (d0 : Array α) (w0 : World)
    (hcmp : CmpLays P g cb enc k cf blk off d0.size w0) (R : RowK enc k w0 blk off d0) (hsz : d0.size < 1152921504606846976) : ∀ (N a m b : Nat) (d : Array α) (w : World), b - a ≤ N → d0.size = d.size → SWK enc k w0 blk off d w → a < m → m < b → b ≤ d.size → SortedIn (ltOf cf) a m d → SortedIn (ltOf cf) m b d →
    Calls P 202 #[.slice (some ⟨blk, off, none⟩) d0.size cap, .int .i64 a, .int .i64 m, .int .i64 b, .func (.func g) #[] cb] w fun e w' => e = .returned (.tuple #[]) ∧ ∃ dn, Mrg (ltOf cf) a b d dn ∧ SWK enc k w0 blk off dn w' := by
  intro N
  induction N with
  | zero => intro a m b d w h _ _ h1 h2; omega
  | succ N ih =>
    intro a m b d w hN hs S ham hmb hb hl hr
    by_cases c1 : a + 1 = m
    · have := symLeft_o k L enc cf hO g cb eg blk off cap a m b d0 d w0 w hcmp R hs S c1 hmb hb (by omega) hr
      rw [← hs] at this; exact this
    by_cases c2 : m + 1 = b
    · have := symRight_o k L enc cf hO g cb eg blk off cap a m b d0 d w0 w hcmp R hs S ham c1 c2 hb (by omega) hl
      rw [← hs] at this; exact this
    have mixed := L.mixed; have t0 := L.t0; have a0 := L.a0; have z0 := L.z0; have v0 := L.v0; have t3 := L.t3; have a3 := L.a3; have z3 := L.z3; have v3 := L.v3; have t4 := L.t4; have a4 := L.a4; have z4 := L.z4; have v4 := L.v4; have tu := L.tu; have au := L.au; have zu := L.zu; have vu := L.vu; have t22 := L.t22; have a22 := L.a22; have z22 := L.z22; have v22 := L.v22; have t25 := L.t25; have a25 := L.a25; have z25 := L.z25; have v25 := L.v25; have aE := L.aE; have zE := L.zE
    have FG := L.g145
    have e147 : ∀ args w, (callFunc 205 args).run P w = .ok (.enter 205 args) w := enters_of L.g147 (by kernel_rfl) rfl
    have e145 : ∀ args w, (callFunc 202 args).run P w = .ok (.enter 202 args) w := enters_of L.g145 (by kernel_rfl) rfl
    have HROT : Hid (∀ (a m b : Nat) (d : Array α) (w : World), d0.size = d.size → SWK enc k w0 blk off d w → a < m → m < b → b ≤ d.size →
      Calls P 205 #[.slice (some ⟨blk, off, none⟩) d0.size cap, .int .i64 a, .int .i64 m, .int .i64 b, .func (.func g) #[] cb] w fun e w' => e = .returned (.tuple #[]) ∧ ∃ dn, Rot a m b d dn ∧ SWK enc k w0 blk off dn w') :=
      Lib.hid fun a m b d w h1 h2 h3 h4 h5 => by
        have := rotate_o k L enc g cb blk off cap a m b d0 d w0 w R h1 h2 h3 h4 h5 (by omega)
        rw [← h1] at this; exact this
    have IH := Lib.hid ih
    have HC : Aside _ := hcmp
    have S0 : Aside (SWK enc k w0 blk off d w) := S
    have HL : Hid (SortedIn (ltOf cf) a m d) := hl
    have HR : Hid (SortedIn (ltOf cf) m b d) := hr
    have HO : Hid (SWO (ltOf cf)) := Lib.hid hO
    have hs1 : d.size ≤ d0.size := by omega
    have hs2 : d0.size ≤ d.size := by omega
    obtain ⟨mid, hmid⟩ : ∃ x, x = (a + b) / 2 := ⟨_, rfl⟩
    obtain ⟨nn, hnn⟩ : ∃ x, x = mid + m := ⟨_, rfl⟩
    obtain ⟨ma, hma⟩ : ∃ x, x = m - a := ⟨_, rfl⟩
    obtain ⟨bm, hbm⟩ : ∃ x, x = b - m := ⟨_, rfl⟩
    obtain ⟨s0, r0, hends⟩ : ∃ s0 r0, Ends a m b mid s0 r0 := by
      by_cases c : mid < m
      · exact ⟨_, _, .inl ⟨c, rfl, rfl⟩⟩
      · exact ⟨_, _, .inr ⟨by omega, rfl, rfl⟩⟩
    have HE : Hid (Ends a m b mid s0 r0) := hends
    have HMID : Hid (mid = (a + b) / 2) := hmid
    have HNN : Hid (nn = mid + m) := hnn
    have q1 : (m : Int) - (a : Int) = (ma : Int) := by omega
    have q1' : ((ma : Int) == 1) = false := by simp; omega
    have q2 : (b : Int) - (m : Int) = (bm : Int) := by omega
    have q2' : ((bm : Int) == 1) = false := by simp; omega
    have hmas : (ma : Int) < 1152921504606846976 := by omega
    have hbms : (bm : Int) < 1152921504606846976 := by omega
    have q3 : ((a : Int) + (b : Int)) / 2 = (mid : Int) := by omega
    have hab0 : 0 ≤ (a : Int) + (b : Int) := by omega
    have hab9 : (a : Int) + (b : Int) < 4611686018427387904 := by omega
    have q4 : (mid : Int) + (m : Int) = (nn : Int) := by omega
    have hnn9 : (nn : Int) < 4611686018427387904 := by omega
    obtain ⟨nb, hnb⟩ : ∃ x, x = nn - b := ⟨_, rfl⟩
    obtain ⟨p, hp⟩ : ∃ x, x = nn - 1 := ⟨_, rfl⟩
    have q6 : (nn : Int) - 1 = (p : Int) := by omega
    have hp9 : (p : Int) < 4611686018427387904 := by omega
    have HP : Hid (p = mid + m - 1) := by show _ = _; omega
    clear hends
    clear S hcmp hl hr hO hmid hnn hma hbm ih c1 c2 hp HE hs s0 r0
    obtain ⟨b0, hb0⟩ : ∃ x, decide (mid < m) = x := ⟨_, rfl⟩
    go_enter FG, Tryz.ntmps202
    go_upto_if 140 with fail
    have HB0 := Lib.hid hb0
    clear hb0
    go_cut [20, 21] from 141 to 146 (fun v20 v21 wx => ∃ s0 r0 : Nat, v20 = .int .i64 s0 ∧ v21 = .int .i64 r0 ∧ Hid (Ends a m b mid s0 r0) ∧ Aside (SWK enc k w0 blk off d wx))
    case first =>
      cases b0 with
      | true =>
        have c : mid < m := by have := of_decide_eq_true HB0.out; omega
        have q5 : (nn : Int) - (b : Int) = (nb : Int) := by have h1 := HNN.out; have h2 := HMID.out; omega
        have HE : Hid (Ends a m b mid nb mid) := Lib.hid (.inl ⟨c, by have h1 := HNN.out; omega, rfl⟩)
        clear hnb c
        go_wp2_with fail
        go_meet
        exact ⟨nb, mid, rfl, rfl, HE, S0⟩
      | false =>
        have c : ¬ mid < m := by have := of_decide_eq_false HB0.out; omega
        have HE : Hid (Ends a m b mid a m) := Lib.hid (.inr ⟨by omega, rfl, rfl⟩)
        clear hnb c
        go_wp2_with fail
        go_meet
        exact ⟨a, m, rfl, rfl, HE, S0⟩
    case rest => as_aux_lemma =>
      clear S0
      obtain ⟨s0, r0, rfl, rfl, HE, S0⟩ := hcut
      have hr0 : r0 ≤ m ∧ r0 ≤ mid ∧ a ≤ s0 ∧ s0 ≤ r0 ∧ nn - s0 ≤ b ∧ m ≤ nn - r0 := by have h1 := HNN.out; have h2 := HMID.out; rcases HE.out with h | h <;> omega
      obtain ⟨g1, g2, g3, g4, g5, g6⟩ := hr0
      have hS0 : Hid (∃ s0' r0', Ends a m b mid s0' r0' ∧ Srch (ltOf cf) (mid + m - 1) s0' r0' s0 r0 d) := Lib.hid ⟨s0, r0, HE.out, ⟨Nat.le_refl _, g4, Nat.le_refl _, fun x _ _ => by omega, fun x _ _ => by omega⟩⟩
      clear hnb HE
      go_wp2
      go_loopg [20, 21] (r0 - s0) (fun kx s20 s21 wr => ∃ (s r : Nat), s20 = .int .i64 s ∧ s21 = .int .i64 r ∧ a ≤ s ∧ s ≤ r ∧ r ≤ m ∧ r ≤ mid ∧ nn - s ≤ b ∧ m ≤ nn - r ∧ r - s ≤ kx ∧ Aside (SWK enc k w0 blk off d wr) ∧ Hid (∃ s0' r0', Ends a m b mid s0' r0' ∧ Srch (ltOf cf) (mid + m - 1) s0' r0' s r d))
      case atStart => exact ⟨s0, r0, rfl, rfl, g3, g4, g1, g2, g5, g6, Nat.le_refl _, S0, hS0⟩
      case round => as_aux_lemma =>
        clear S0 hS0
        obtain ⟨s, r, rfl, rfl, has, hsr, hrm, hrmid, hsb, hrn, hkx, S1, HX⟩ := hrel
        by_cases hlt : s < r
        · have hltz : (s : Int) < (r : Int) := by omega
          obtain ⟨c, hc⟩ : ∃ c, c = (s + r) / 2 := ⟨_, rfl⟩
          have hb1 : (s : Int) + (r : Int) < 4611686018427387904 := by omega
          have hb0 : 0 ≤ (s : Int) + (r : Int) := by omega
          have hce : ((s : Int) + (r : Int)) / 2 = (c : Int) := by omega
          have hsc : s ≤ c := by omega
          have hcr : c < r := by omega
          obtain ⟨y, hy⟩ : ∃ y, y = mid + m - 1 - c := ⟨_, rfl⟩
          have hyp : (p : Int) - (c : Int) = (y : Int) := by have := HP.out; omega
          have hy9 : (y : Int) < 4611686018427387904 := by omega
          have hyb : y < b := by have := HNN.out; omega
          have hcb : c < d.size := by omega
          have hyd : y < d.size := by omega
          have HYM := Lib.hid hy
          clear hc
          cases hlv : ltOf cf d[y]! d[c]! with
          | true => as_aux_lemma =>
            have HN : Hid (∃ s0' r0', Ends a m b mid s0' r0' ∧ Srch (ltOf cf) (mid + m - 1) s0' r0' s c d) := by
              obtain ⟨x0, x1, h1, h2⟩ := HX.out
              exact Lib.hid ⟨x0, x1, h1, h2.down HO.out h1 ham hmb HMID.out HL.out HR.out hsc hcr (by rw [← hy]; exact hlv)⟩
            have hcn : m ≤ nn - c := by have := HNN.out; omega
            clear hy
            have ea : ((y : Nat) : Int).toNat = y := by omega
            have pa : (0 : Int) ≤ (y : Int) := by omega
            have ba : (y : Int) < (d0.size : Int) := by omega
            have ec : ((c : Nat) : Int).toNat = c := by omega
            have pc : (0 : Int) ≤ (c : Int) := by omega
            have bc : (c : Int) < (d0.size : Int) := by omega
            obtain ⟨vx, hvx⟩ : ∃ z, z = d[y]! := ⟨_, rfl⟩
            obtain ⟨vy, hvy⟩ : ∃ z, z = d[c]! := ⟨_, rfl⟩
            have la := S1.out.ld R (by omega) P y (by omega)
            have lb := S1.out.ld R (by omega) P c (by omega)
            rw [← hvx] at la
            rw [← hvy] at lb
            have hcm := S1.out.cmp HC.out (by omega) vx vy
            have hv : cf vx vy < 0 := by rw [hvx, hvy]; exact of_decide_eq_true hlv
            have hd : decide (cf vx vy < 0) = true := decide_eq_true hv
            clear hvx hvy
            have hyw : IntKind.i64.wrap (y : Int) = (y : Int) := by rw [IntKind.wrap_i64]; omega
            go_wp2_with fail
            go_quiet_grown (first | (go_at_fn g; refine Calls.grown_of (hcm _ _)))
            have S2 : Aside (SWK enc k w0 blk off d (grow (wr.drewN nq) osq)) := S1.out.grown nq osq
            clear la lb hcm S1 hyw
            generalize grow (wr.drewN nq) osq = w2 at S2 ⊢
            clear nq osq
            go_wp2
            go_roundg (c - s)
            case measure => omega
            case rel => exact ⟨s, c, rfl, rfl, has, hsc, by omega, by omega, hsb, hcn, Nat.le_refl _, S2, HN⟩
          | false => as_aux_lemma =>
            have HN : Hid (∃ s0' r0', Ends a m b mid s0' r0' ∧ Srch (ltOf cf) (mid + m - 1) s0' r0' (c + 1) r d) := by
              obtain ⟨x0, x1, h1, h2⟩ := HX.out
              exact Lib.hid ⟨x0, x1, h1, h2.up HO.out h1 ham hmb HMID.out HL.out HR.out hsc hcr (by rw [← hy]; exact hlv)⟩
            clear hy
            have ea : ((y : Nat) : Int).toNat = y := by omega
            have pa : (0 : Int) ≤ (y : Int) := by omega
            have ba : (y : Int) < (d0.size : Int) := by omega
            have ec : ((c : Nat) : Int).toNat = c := by omega
            have pc : (0 : Int) ≤ (c : Int) := by omega
            have bc : (c : Int) < (d0.size : Int) := by omega
            obtain ⟨vx, hvx⟩ : ∃ z, z = d[y]! := ⟨_, rfl⟩
            obtain ⟨vy, hvy⟩ : ∃ z, z = d[c]! := ⟨_, rfl⟩
            have la := S1.out.ld R (by omega) P y (by omega)
            have lb := S1.out.ld R (by omega) P c (by omega)
            rw [← hvx] at la
            rw [← hvy] at lb
            have hcm := S1.out.cmp HC.out (by omega) vx vy
            have hv : ¬ cf vx vy < 0 := by rw [hvx, hvy]; exact of_decide_eq_false hlv
            have hd : decide (cf vx vy < 0) = false := decide_eq_false hv
            clear hvx hvy
            have hyw : IntKind.i64.wrap (y : Int) = (y : Int) := by rw [IntKind.wrap_i64]; omega
            go_wp2_with fail
            go_quiet_grown (first | (go_at_fn g; refine Calls.grown_of (hcm _ _)))
            have S2 : Aside (SWK enc k w0 blk off d (grow (wr.drewN nq) osq)) := S1.out.grown nq osq
            clear la lb hcm S1 hyw
            generalize grow (wr.drewN nq) osq = w2 at S2 ⊢
            clear nq osq
            go_wp2
            go_roundg (r - (c + 1))
            case measure => omega
            case rel => exact ⟨c + 1, r, by go_num, rfl, by omega, by omega, hrm, hrmid, by omega, hrn, Nat.le_refl _, S2, HN⟩
        · have hltz : ¬ (s : Int) < (r : Int) := by omega
          have hre : r = s := by omega
          subst hre
          have hcut : Cutd (ltOf cf) a m b mid r d := by
            obtain ⟨x0, x1, h1, h2⟩ := HX.out
            exact h2.cut h1 ham hmb HMID.out
          have HCUT : Hid (Cutd (ltOf cf) a m b mid r d) := hcut
          obtain ⟨e, he⟩ : ∃ e, e = nn - r := ⟨_, rfl⟩
          have q8 : (nn : Int) - (r : Int) = (e : Int) := by omega
          have he9 : (e : Int) < 4611686018427387904 := by omega
          have HEE : Hid (e = mid + m - r) := by show _ = _; have := HNN.out; omega
          have heb : e ≤ b := by omega
          have hme : m ≤ e := by omega
          have hmide : mid ≤ e := by have := HNN.out; omega
          have hamid : a < mid := by have := HMID.out; omega
          have hmidb : mid < b := by have := HMID.out; omega
          clear hcut he HX hltz
          go_upto_region 39 with fail
          obtain ⟨b1, hb1⟩ : ∃ x : Bool, x = decide (r < m ∧ m < e) := ⟨_, rfl⟩
          have HB1 := Lib.hid hb1
          clear hb1
          go_cut [185] (fun v wx => v = .bool b1 ∧ Aside (SWK enc k w0 blk off d wx))
          case first => as_aux_lemma =>
            by_cases h1 : r < m
            · have h1' : (r : Int) < (m : Int) := by omega
              by_cases h2 : m < e
              · have h2' : (m : Int) < (e : Int) := by omega
                have hb : b1 = true := by rw [HB1.out]; simp [h1, h2]
                subst hb
                go_wp2_with fail
                go_meet
                exact ⟨rfl, S1⟩
              · have h2' : ¬ (m : Int) < (e : Int) := by omega
                have hb : b1 = false := by rw [HB1.out]; simp [h2]
                subst hb
                go_wp2_with fail
                go_meet
                exact ⟨rfl, S1⟩
            · have h1' : ¬ (r : Int) < (m : Int) := by omega
              have hb : b1 = false := by rw [HB1.out]; simp [h1]
              subst hb
              go_wp2_with fail
              go_meet
              exact ⟨rfl, S1⟩
          case rest => as_aux_lemma =>
            clear S1
            obtain ⟨rfl, S1⟩ := hcut
            have hrot : Hid (Rot r m e d d ∨ b1 = true) := by
              rcases Nat.lt_or_ge r m with h1 | h1
              · rcases Nat.lt_or_ge m e with h2 | h2
                · exact Lib.hid (.inr (by rw [HB1.out]; simp [h1, h2]))
                · have : e = m := by omega
                  rw [this]; exact Lib.hid (.inl (Rot.right r m d))
              · have : r = m := by omega
                rw [this]; exact Lib.hid (.inl (Rot.none m e d))
            go_upto_if 185 with fail
            go_cut [] (fun wx => ∃ d1 : Array α, Aside (SWK enc k w0 blk off d1 wx) ∧ Hid (Rot r m e d d1))
            case first => as_aux_lemma =>
              cases b1 with
              | true =>
                have hc1 : r < m ∧ m < e := by have := HB1.out; simpa using this.symm
                have HCR := Lib.hid (HROT.out r m e d wc (by omega) S1.out hc1.1 hc1.2 (by omega))
                clear hc1
                go_wp2_with (go_at_fn 205; refine HCR.out.mono ?_; rintro e' w2 ⟨rfl, d1, hr1, hs1'⟩)
                go_meet
                exact ⟨d1, hs1', Lib.hid hr1⟩
              | false =>
                go_wp2_with fail
                go_meet
                exact ⟨d, S1, Lib.hid (by rcases hrot.out with h | h; exact h; cases h)⟩
            case rest => as_aux_lemma =>
              clear S1 HB1 hrot
              obtain ⟨d1, S1, HRT⟩ := hcut
              have hd1 : d1.size = d.size := HRT.out.1.1
              have hd1a : d1.size ≤ d.size := by omega
              have hd1b : d.size ≤ d1.size := by omega
              have hsorted := HRT.out
              rw [HEE.out] at hsorted
              have hsrt := hsorted.sorted HCUT.out HL.out HR.out
              rw [← HEE.out] at hsrt
              have HSRT := Lib.hid hsrt
              clear hsorted hsrt hd1
              clear b1
              go_upto_region 41 with fail
              obtain ⟨b2, hb2⟩ : ∃ q : Bool, q = decide (a < r ∧ r < mid) := ⟨_, rfl⟩
              have HB := Lib.hid hb2
              clear hb2
              go_cut [199] (fun v wx => v = .bool b2 ∧ Aside (SWK enc k w0 blk off d1 wx))
              case first => as_aux_lemma =>
                by_cases h1 : a < r
                · have h1' : (a : Int) < (r : Int) := by omega
                  by_cases h2 : r < mid
                  · have h2' : (r : Int) < (mid : Int) := by omega
                    have hb : b2 = true := by rw [HB.out]; simp [h1, h2]
                    subst hb
                    go_wp2_with fail
                    go_meet
                    exact ⟨rfl, S1⟩
                  · have h2' : ¬ (r : Int) < (mid : Int) := by omega
                    have hb : b2 = false := by rw [HB.out]; simp [h2]
                    subst hb
                    go_wp2_with fail
                    go_meet
                    exact ⟨rfl, S1⟩
                · have h1' : ¬ (a : Int) < (r : Int) := by omega
                  have hb : b2 = false := by rw [HB.out]; simp [h1]
                  subst hb
                  go_wp2_with fail
                  go_meet
                  exact ⟨rfl, S1⟩
              case rest => as_aux_lemma =>
                clear S1
                obtain ⟨rfl, S1⟩ := hcut
                go_upto_if 199 with fail
                go_cut [] (fun wx => ∃ d2 : Array α, Aside (SWK enc k w0 blk off d2 wx) ∧ Hid (Mrg (ltOf cf) a mid d1 d2))
                case first => as_aux_lemma =>
                  cases b2 with
                  | true =>
                    have hc1 : a < r ∧ r < mid := by have := HB.out; simpa using this.symm
                    have HCR := Lib.hid (IH.out a r mid d1 wc (by omega) (by omega) S1.out hc1.1 hc1.2 (by omega) HSRT.out.1 HSRT.out.2.1)
                    clear hc1
                    go_wp2_with (go_at_fn 202; refine HCR.out.mono ?_; rintro e' w2 ⟨rfl, d2, hr1, hs1'⟩)
                    go_meet
                    exact ⟨d2, hs1', Lib.hid hr1⟩
                  | false =>
                    have HT : Hid (Mrg (ltOf cf) a mid d1 d1) := Lib.hid (Mrg.triv (by
                      have h0 := HB.out
                      have h1 : ¬ (a < r ∧ r < mid) := by simpa using h0.symm
                      rcases Nat.lt_or_ge a r with h2 | h2
                      · have h3 : r = mid := by omega
                        rw [← h3]; exact HSRT.out.1
                      · have h3 : r = a := by omega
                        have h4 := HSRT.out.2.1
                        rw [h3] at h4; exact h4))
                    go_wp2_with fail
                    go_meet
                    exact ⟨_, S1, HT⟩
                case rest => as_aux_lemma =>
                  clear S1 HB
                  obtain ⟨d2, S1, HM_d2⟩ := hcut
                  have hd2 : d2.size = d1.size := HM_d2.out.1.1
                  have hd2a : d2.size ≤ d1.size := by omega
                  have hd2b : d1.size ≤ d2.size := by omega
                  have HS2 : Hid (SortedIn (ltOf cf) mid e d2 ∧ SortedIn (ltOf cf) e b d2) := by
                    have hc := fun i (h1 : mid ≤ i) => HM_d2.out.1.2.1 i (.inr h1)
                    exact Lib.hid ⟨HSRT.out.2.2.1.congr fun i h1 _ => hc i h1, HSRT.out.2.2.2.congr fun i h1 _ => hc i (by omega)⟩
                  clear hd2 b2
                  go_upto_region 43 with fail
                  obtain ⟨b3, hb3⟩ : ∃ q : Bool, q = decide (mid < e ∧ e < b) := ⟨_, rfl⟩
                  have HB := Lib.hid hb3
                  clear hb3
                  go_cut [213] (fun v wx => v = .bool b3 ∧ Aside (SWK enc k w0 blk off d2 wx))
                  case first => as_aux_lemma =>
                    by_cases h1 : mid < e
                    · have h1' : (mid : Int) < (e : Int) := by omega
                      by_cases h2 : e < b
                      · have h2' : (e : Int) < (b : Int) := by omega
                        have hb : b3 = true := by rw [HB.out]; simp [h1, h2]
                        subst hb
                        go_wp2_with fail
                        go_meet
                        exact ⟨rfl, S1⟩
                      · have h2' : ¬ (e : Int) < (b : Int) := by omega
                        have hb : b3 = false := by rw [HB.out]; simp [h2]
                        subst hb
                        go_wp2_with fail
                        go_meet
                        exact ⟨rfl, S1⟩
                    · have h1' : ¬ (mid : Int) < (e : Int) := by omega
                      have hb : b3 = false := by rw [HB.out]; simp [h1]
                      subst hb
                      go_wp2_with fail
                      go_meet
                      exact ⟨rfl, S1⟩
                  case rest => as_aux_lemma =>
                    clear S1
                    obtain ⟨rfl, S1⟩ := hcut
                    have hf : Hid (∀ d3 : Array α, Mrg (ltOf cf) mid b d2 d3 → Mrg (ltOf cf) a b d d3) := Lib.hid fun d3 h3 => mrg_parts HO.out ham hmb HMID.out hb HL.out HR.out HCUT.out (by have h := HRT.out; rw [HEE.out] at h; exact h) HM_d2.out h3
                    cases b3 with
                    | true =>
                      have hc1 : mid < e ∧ e < b := by have := HB.out; simpa using this.symm
                      have HCR := Lib.hid (IH.out mid e b d2 wc (by omega) (by omega) S1.out hc1.1 hc1.2 (by omega) HS2.out.1 HS2.out.2)
                      clear hc1
                      go_wp2_with (go_at_fn 202; refine HCR.out.mono ?_; rintro e' w2 ⟨rfl, d3, hr1, hs1'⟩)
                      go_end0
                      exact ⟨rfl, d3, hf.out d3 hr1, hs1'⟩
                    | false =>
                      have HT : Hid (Mrg (ltOf cf) mid b d2 d2) := Lib.hid (Mrg.triv (by
                        have h0 := HB.out
                        have h1 : ¬ (mid < e ∧ e < b) := by simpa using h0.symm
                        rcases Nat.lt_or_ge mid e with h2 | h2
                        · have h3 : e = b := by omega
                          rw [← h3]; exact HS2.out.1
                        · have h3 : e = mid := by omega
                          have h4 := HS2.out.2
                          rw [h3] at h4; exact h4))
                      go_wp2_with fail
                      go_end0
                      exact ⟨rfl, d2, hf.out d2 HT.out, S1.out⟩

end
end Go.Proofs.YteodabnjkikogaaGreat

/-
  Walks: slices.SortStableFunc at the rows of topdown: the row behind it is a permutation, sorted.
-/
namespace Go.Proofs.YteodabnjkikogaaGreat
open Go.Shelf Go.RowKit Go.Lib Go.Sort

section
variable {α : Type} [Inhabited α] {lt : α → α → Bool}
theorem dvd_step {k x a : Nat} (h1 : k ∣ x) (h2 : k ∣ a) (h : x < a) : x + k ≤ a := by
  obtain ⟨u, rfl⟩ := h1
  obtain ⟨v, rfl⟩ := h2
  have : u < v := Nat.lt_of_mul_lt_mul_left h
  have := Nat.mul_le_mul_left k (show u + 1 ≤ v from this)
  rw [Nat.mul_add, Nat.mul_one] at this
  exact this
/-- Sorted in each block of k below a. -/
def Blks (lt : α → α → Bool) (k a : Nat) (d : Array α) : Prop := ∀ x, k ∣ x → x < a → SortedIn lt x (x + k) d
/-- Sorted in each block of k from a on. -/
def BlkF (lt : α → α → Bool) (k a n : Nat) (d : Array α) : Prop := ∀ x, k ∣ x → a ≤ x → SortedIn lt x (min (x + k) n) d
theorem Blks.step {k a : Nat} {d d' : Array α} (h : Blks lt k a d) (ha : k ∣ a) (hm : Mrg lt a (a + k) d d') : Blks lt k (a + k) d' := by
  intro x hx hxa
  by_cases e : x < a
  · have := dvd_step hx ha e
    exact (h x hx e).congr fun i _ h2 => hm.1.2.1 i (.inl (by omega))
  · have : x = a := by
      by_cases e2 : a < x
      · have := dvd_step ha hx e2; omega
      · omega
    subst this; exact hm.2
theorem Blks.last {k a n : Nat} {d d' : Array α} (h : Blks lt k a d) (ha : k ∣ a) (han : a ≤ n) (hn : n < a + k) (hm : Mrg lt a n d d') : BlkF lt k 0 n d' := by
  intro x hx _
  by_cases e : x < a
  · have := dvd_step hx ha e
    rw [Nat.min_eq_left (by omega)]
    exact (h x hx e).congr fun i _ h2 => hm.1.2.1 i (.inl (by omega))
  · by_cases e2 : a < x
    · have := dvd_step ha hx e2
      rw [Nat.min_eq_right (by omega)]
      exact fun i j h1 h2 h3 => by omega
    · have : x = a := by omega
      subst this
      rw [Nat.min_eq_right (by omega)]
      exact hm.2
theorem BlkF.step {k a n b : Nat} {d d' : Array α} (h : BlkF lt k a n d) (hab : a ≤ b) (hp : PermIn a b d d') : BlkF lt k b n d' := fun x hx hxb =>
  (h x hx (by omega)).congr fun i h1 _ => hp.2.1 i (.inr (by omega))
theorem insMrg (hO : SWO lt) (d : Array α) (a b : Nat) (hab : a ≤ b) (hb : b ≤ d.size) : Mrg lt a b d (Sort.insertionSort lt d a b) := by
  have h := insertionSort_holds hO d a b hab hb
  exact ⟨h.1, h.2⟩
end
def rowLays_ren : Go.Shelf.Ren := ⟨fun | 20 => 201 | n => n, fun | 24 => 88 | 22 => 82 | 3 => 3 | 25 => 171 | 4 => 4 | 0 => 0 | n => n, fun | n => n⟩
theorem rowLays : Go.Proofs.SlLaysF0.n20 Tryz.prog rowLays_ren := {
  mixed := by kernel_rfl
  f20 := ⟨Tryz.f201.name, by decide, Tryz.func201.trans (congrArg some (by kernel_rfl))⟩
  t0 := Tryz.underlying0
  a0 := Tryz.isAgg0
  z0 := Tryz.sizeOf0
  v0 := Tryz.zeroValue0
  t3 := Tryz.underlying3
  a3 := Tryz.isAgg3
  z3 := Tryz.sizeOf3
  v3 := Tryz.zeroValue3
  t4 := Tryz.underlying4
  a4 := Tryz.isAgg4
  z4 := Tryz.sizeOf4
  v4 := Tryz.zeroValue4
  t22 := Tryz.underlying82
  a22 := Tryz.isAgg82
  z22 := Tryz.sizeOf82
  v22 := Tryz.zeroValue82
  t25 := Tryz.underlying171
  a25 := Tryz.isAgg171
  z25 := Tryz.sizeOf171
  v25 := Tryz.zeroValue171 }
theorem cmpLaysR (blk off size : Nat) (w : World) : CmpLays Tryz.prog 159 #[] encR 3 cfR blk off size w := fun _ _ _ _ x y => leastCmp x y _
theorem rowK_of {blk off : Nat} {d : Array Nat} {w : World} (hH : HoldsK encR 3 w blk off d) (hb : blk < w.heap.size) : RowK encR 3 w blk off d where
  hk _ := rfl
  h1 x v hv := by simp [encR, rcells] at hv; rcases hv with rfl | rfl | rfl <;> rfl
  hH := hH
  hblk := hb
set_option maxHeartbeats 8000000 in
set_option maxRecDepth 1000000 in
theorem stable_any (blk off cap : Nat) (d : Array Nat) (w0 : World) (hH : HoldsK encR 3 w0 blk off d) (hblk : blk < w0.heap.size) (hsz : d.size ≤ 1000000000) :
    Calls Tryz.prog 192 #[.slice (some ⟨blk, off, none⟩) d.size cap, .int .i64 d.size, .func (.func 159) #[] #[]] w0 fun e w' => e = .returned (.tuple #[]) ∧ ∃ dn, Mrg (ltOf cfR) 0 d.size d dn ∧ SWK encR 3 w0 blk off dn w' := by
  have R := rowK_of hH hblk
  have eg : ∀ args w, (callFunc 159 args).run Tryz.prog w = .ok (.enter 159 args) w := enters_of Tryz.func159 (by kernel_rfl) rfl
  have HINS : Hid (∀ (a b : Nat) (dk : Array Nat) (w : World), dk.size = d.size → SWK encR 3 w0 blk off dk w → a ≤ b → b ≤ d.size →
      Calls Tryz.prog 201 #[.slice (some ⟨blk, off, none⟩) d.size cap, .int .i64 a, .int .i64 b, .func (.func 159) #[] #[]] w fun e w' => e = .returned (.tuple #[]) ∧ ∃ dn, Mrg (ltOf cfR) a b dk dn ∧ SWK encR 3 w0 blk off dn w') :=
    Lib.hid fun a b dk w h1 h2 h3 h4 => by
      have := AnyQ.insertionSortCmpFunc_w (P := Tryz.prog) rowLays 3 Tryz.isAgg88 Tryz.sizeOf88 encR cfR 159 #[] blk off cap a b d dk w0 w eg (cmpLaysR blk off d.size w0) R h1.symm h2 swoR h3 (by omega) (by omega)
      rw [h1] at this
      exact this.mono fun e w' ⟨he, hw⟩ => ⟨he, _, insMrg swoR dk a b h3 (by omega), hw⟩
  have HSYM : Hid (∀ (a m b : Nat) (dk : Array Nat) (w : World), dk.size = d.size → SWK encR 3 w0 blk off dk w → a < m → m < b → b ≤ d.size → SortedIn (ltOf cfR) a m dk → SortedIn (ltOf cfR) m b dk →
      Calls Tryz.prog 202 #[.slice (some ⟨blk, off, none⟩) d.size cap, .int .i64 a, .int .i64 m, .int .i64 b, .func (.func 159) #[] #[]] w fun e w' => e = .returned (.tuple #[]) ∧ ∃ dn, Mrg (ltOf cfR) a b dk dn ∧ SWK encR 3 w0 blk off dn w') :=
    Lib.hid fun a m b dk w h1 h2 h3 h4 h5 h6 h7 => symMerge_o 3 stL encR cfR swoR 159 #[] eg blk off cap d w0 (cmpLaysR blk off d.size w0) R (by omega) (b - a) a m b dk w (Nat.le_refl _) h1.symm h2 h3 h4 (by omega) h6 h7
  have S0 : Aside (SWK encR 3 w0 blk off d w0) := SWK.start hH
  have HH : Hid _ := R
  clear R hH eg
  obtain ⟨n, hn⟩ : ∃ n, n = d.size := ⟨_, rfl⟩
  have HN := Lib.hid hn
  rw [← hn] at HINS HSYM hsz ⊢
  clear hn
  go_enter Tryz.func192, Tryz.ntmps192
  go_wp2
  go_loopg [7, 8] (n + 20) (fun kx s7 s8 wr => ∃ (a : Nat) (dk : Array Nat), s7 = .int .i64 a ∧ s8 = .int .i64 (a + 20 : Nat) ∧ a ≤ n ∧ n + 20 - a ≤ kx ∧ Aside (SWK encR 3 w0 blk off dk wr) ∧ Hid (20 ∣ a ∧ PermIn 0 n d dk ∧ Blks (ltOf cfR) 20 a dk))
  case atStart => exact ⟨0, d, rfl, rfl, Nat.zero_le _, by omega, S0, Lib.hid ⟨⟨0, rfl⟩, permIn_refl _ _ _, fun x _ h => by omega⟩⟩
  case round =>
    clear S0
    obtain ⟨a, dk, rfl, rfl, han, hkx, S1, HW⟩ := hrel
    obtain ⟨b, hb⟩ : ∃ b, b = a + 20 := ⟨_, rfl⟩
    rw [← hb]
    have hds : dk.size = n := by rw [HW.out.2.1.1, HN.out]
    by_cases hlt : b ≤ n
    · have hltz : (b : Int) ≤ (n : Int) := by omega
      have HCI := Lib.hid (HINS.out a b dk wr (by have := HN.out; omega) S1.out (by omega) (by omega))
      have HB := Lib.hid hb
      have hb20 : (b : Int) + 20 < 4611686018427387904 := by omega
      have hba : a < b := by omega
      have hbk : n + 20 - b < n + 20 - a := by omega
      clear hb S1 hds
      go_wp2_with (go_at_call 201; refine HCI.out.mono ?_; rintro e w2 ⟨rfl, dn, hm, hs⟩)
      have hrel2 : Hid (20 ∣ b ∧ PermIn 0 n d dn ∧ Blks (ltOf cfR) 20 b dn) := by
        obtain ⟨h1, h2, h3⟩ := HW.out
        have hm' := hm
        rw [HB.out] at hm' ⊢
        exact Lib.hid ⟨Nat.dvd_add h1 (Nat.dvd_refl 20), permIn_trans _ _ _ _ _ h2 (permIn_mono _ _ _ _ _ _ (Nat.zero_le _) (by have := HB.out; omega) (by rw [h2.1, HN.out]; omega) hm'.1), h3.step h1 hm'⟩
      have S2 : Aside (SWK encR 3 w0 blk off dn w2) := hs
      clear hm hs HCI HW HB
      go_wp2
      go_roundg (n + 20 - b)
      case measure => omega
      case rel => exact ⟨b, dn, rfl, by go_num, hlt, Nat.le_refl _, S2, hrel2⟩
    · have hltz : ¬ (b : Int) ≤ (n : Int) := by omega
      have HCI := Lib.hid (HINS.out a n dk wr (by have := HN.out; omega) S1.out han (Nat.le_refl _))
      have HB := Lib.hid hb
      have hnb : n < a + 20 := by omega
      clear hb S1 hds
      go_wp2_with (go_at_call 201; refine HCI.out.mono ?_; rintro e w2 ⟨rfl, dn, hm, hs⟩)
      have hrel2 : Hid (PermIn 0 n d dn ∧ BlkF (ltOf cfR) 20 0 n dn) := by
        obtain ⟨h1, h2, h3⟩ := HW.out
        exact Lib.hid ⟨permIn_trans _ _ _ _ _ h2 (permIn_mono _ _ _ _ _ _ (Nat.zero_le _) (Nat.le_refl _) (by rw [h2.1, HN.out]; exact Nat.le_refl _) hm.1), h3.last h1 han hnb hm⟩
      have S2 : Aside (SWK encR 3 w0 blk off dn w2) := hs
      clear hm hs HCI HW HB
      go_wp2
      clear HINS
      go_loopg [6] n (fun kx s6 wr => ∃ (bs : Nat) (dk : Array Nat), s6 = .int .i64 bs ∧ 0 < bs ∧ bs ≤ 2000000000 ∧ n - bs ≤ kx ∧ Aside (SWK encR 3 w0 blk off dk wr) ∧ Hid (PermIn 0 n d dk ∧ BlkF (ltOf cfR) bs 0 n dk))
      case atStart => exact ⟨20, dn, rfl, by omega, by omega, by omega, S2, hrel2⟩
      case round =>
        clear S2 hrel2 hltz hnb hkx han
        obtain ⟨bs, dk2, rfl, hbs0, hbs9, hkx2, S3, HW⟩ := hrel
        by_cases hlt2 : bs < n
        · have hltz2 : (bs : Int) < (n : Int) := by omega
          obtain ⟨t, ht⟩ : ∃ t, t = 2 * bs := ⟨_, rfl⟩
          have q1 : 2 * (bs : Int) = (t : Int) := by omega
          have q2 : (bs : Int) * 2 = (t : Int) := by omega
          have ht9 : (t : Int) ≤ 2000000000 := by omega
          have HT := Lib.hid ht
          have hbst : bs < t := by omega
          clear ht
          go_wp2
          go_loopg [7, 8] (n + t) (fun kx s7 s8 wr => ∃ (a c : Nat) (dk : Array Nat), s7 = .int .i64 a ∧ s8 = .int .i64 c ∧ Hid (c = a + t) ∧ a ≤ n ∧ n + t - a ≤ kx ∧ Aside (SWK encR 3 w0 blk off dk wr) ∧ Hid (t ∣ a ∧ PermIn 0 n d dk ∧ Blks (ltOf cfR) t a dk ∧ BlkF (ltOf cfR) bs a n dk))
          case atStart => exact ⟨0, t, dk2, rfl, rfl, Lib.hid (by omega), Nat.zero_le _, by omega, S3, Lib.hid ⟨⟨0, rfl⟩, HW.out.1, fun x _ h => by omega, HW.out.2⟩⟩
          case round =>
            clear S3 HW
            obtain ⟨a2, c, dk3, rfl, rfl, HCA, han2, hkx3, S4, HW⟩ := hrel
            have hca := HCA.out
            obtain ⟨m, hm⟩ : ∃ m, m = a2 + bs := ⟨_, rfl⟩
            have q3 : (a2 : Int) + (bs : Int) = (m : Int) := by omega
            have hm9 : (m : Int) ≤ 4000000000 := by omega
            have hdsz : dk3.size = d.size := HW.out.2.1.1
            have hdsa : d.size = n := HN.out.symm
            have HDV : Hid (bs ∣ a2 ∧ bs ∣ m) := Lib.hid (by
              have h1 : bs ∣ a2 := Nat.dvd_trans ⟨2, by have := HT.out; omega⟩ HW.out.1
              exact ⟨h1, by rw [hm]; exact Nat.dvd_add h1 (Nat.dvd_refl bs)⟩)
            have HL : Hid (SortedIn (ltOf cfR) a2 (min m n) dk3) := Lib.hid (by rw [hm]; exact HW.out.2.2.2 a2 HDV.out.1 (Nat.le_refl _))
            have HR : Hid (SortedIn (ltOf cfR) m (min c n) dk3) := Lib.hid (by
              have h := HW.out.2.2.2 m HDV.out.2 (by omega)
              rw [show m + bs = c by have := HT.out; omega] at h; exact h)
            by_cases hlt3 : c ≤ n
            · have hltz3 : (c : Int) ≤ (n : Int) := by omega
              have hl2 : SortedIn (ltOf cfR) a2 m dk3 := by have h := HL.out; rw [Nat.min_eq_left (by omega)] at h; exact h
              have hr2 : SortedIn (ltOf cfR) m c dk3 := by have h := HR.out; rw [Nat.min_eq_left (by omega)] at h; exact h
              have HCS := Lib.hid (HSYM.out a2 m c dk3 wr (by omega) S4.out (by omega) (by have := HT.out; omega) hlt3 hl2 hr2)
              obtain ⟨c', hc'⟩ : ∃ c', c' = c + t := ⟨_, rfl⟩
              have q4 : (c : Int) + (t : Int) = (c' : Int) := by omega
              have hc9 : (c' : Int) ≤ 8000000000 := by omega
              have HCC : Hid (c' = c + t) := Lib.hid hc'
              have hac : a2 < c := by omega
              clear hm hl2 hr2 hc' hca S4 hdsz hdsa
              go_wp2_with (go_at_call 202; refine HCS.out.mono ?_; rintro e w3 ⟨rfl, d4, hmg, hs4⟩)
              have hrel4 : Hid (t ∣ c ∧ PermIn 0 n d d4 ∧ Blks (ltOf cfR) t c d4 ∧ BlkF (ltOf cfR) bs c n d4) := by
                obtain ⟨h1, h2, h3, h4⟩ := HW.out
                have hc := HCA.out
                refine Lib.hid ⟨by rw [hc]; exact Nat.dvd_add h1 (Nat.dvd_refl t), permIn_trans _ _ _ _ _ h2 (permIn_mono _ _ _ _ _ _ (Nat.zero_le _) hlt3 (by rw [h2.1, HN.out]; exact Nat.le_refl _) hmg.1), ?_, h4.step (by omega) hmg.1⟩
                rw [hc] at hmg ⊢
                exact h3.step h1 hmg
              have S5 : Aside (SWK encR 3 w0 blk off d4 w3) := hs4
              have hgo : n + t - c < n + t - a2 := by omega
              clear hmg hs4 HCS HW HCA HL HR HDV q3
              go_wp2
              go_roundg (n + t - c)
              case measure => omega
              case rel => exact ⟨c, c', d4, rfl, rfl, HCC, hlt3, Nat.le_refl _, S5, hrel4⟩
            · have hltz3 : ¬ (c : Int) ≤ (n : Int) := by omega
              by_cases hlt4 : m < n
              · have hltz4 : (m : Int) < (n : Int) := by omega
                have hl2 : SortedIn (ltOf cfR) a2 m dk3 := by have h := HL.out; rw [Nat.min_eq_left (by omega)] at h; exact h
                have hr2 : SortedIn (ltOf cfR) m n dk3 := by have h := HR.out; rw [Nat.min_eq_right (by omega)] at h; exact h
                have HCS := Lib.hid (HSYM.out a2 m n dk3 wr (by omega) S4.out (by omega) hlt4 (by omega) hl2 hr2)
                have hcn : n < a2 + t := by omega
                clear hm hl2 hr2 hca S4 hdsz hdsa
                go_wp2_with (go_at_call 202; refine HCS.out.mono ?_; rintro e w3 ⟨rfl, d4, hmg, hs4⟩)
                have hrel4 : Hid (PermIn 0 n d d4 ∧ BlkF (ltOf cfR) t 0 n d4) := by
                  obtain ⟨h1, h2, h3, h4⟩ := HW.out
                  exact Lib.hid ⟨permIn_trans _ _ _ _ _ h2 (permIn_mono _ _ _ _ _ _ (Nat.zero_le _) (Nat.le_refl _) (by rw [h2.1, HN.out]; exact Nat.le_refl _) hmg.1), h3.last h1 han2 hcn hmg⟩
                have S5 : Aside (SWK encR 3 w0 blk off d4 w3) := hs4
                have hgo : n - t < n - bs := by omega
                clear hmg hs4 HCS HW HCA HL HR HDV q3
                go_wp2
                go_roundg (n - t)
                case measure => omega
                case rel => exact ⟨t, d4, rfl, by omega, by omega, Nat.le_refl _, S5, hrel4⟩
              · have hltz4 : ¬ (m : Int) < (n : Int) := by omega
                have hcn : n < a2 + t := by omega
                have hrel4 : Hid (PermIn 0 n d dk3 ∧ BlkF (ltOf cfR) t 0 n dk3) := by
                  obtain ⟨h1, h2, h3, h4⟩ := HW.out
                  have hl2 : SortedIn (ltOf cfR) a2 n dk3 := by have h := HL.out; rw [Nat.min_eq_right (by omega)] at h; exact h
                  exact Lib.hid ⟨h2, h3.last h1 han2 hcn ⟨permIn_refl _ _ _, hl2⟩⟩
                have hgo : n - t < n - bs := by omega
                clear hm hca hdsz hdsa HW HCA HL HR HDV
                go_wp2
                go_roundg (n - t)
                case measure => omega
                case rel => exact ⟨t, dk3, rfl, by omega, by omega, Nat.le_refl _, S4, hrel4⟩
        · have hltz2 : ¬ (bs : Int) < (n : Int) := by omega
          have HF : Hid (Mrg (ltOf cfR) 0 n d dk2) := Lib.hid ⟨HW.out.1, by have h := HW.out.2 0 ⟨0, rfl⟩ (Nat.le_refl _); rw [Nat.min_eq_right (by omega)] at h; exact h⟩
          go_wp2
          go_end0
          exact ⟨rfl, dk2, HF.out, S3.out⟩
end Go.Proofs.YteodabnjkikogaaGreat

/-
  Slices of rows of topdown. Walk: topdown.greatest.
-/
namespace Go.Proofs.YteodabnjkikogaaGreat
open Go.RowKit

/-- A slice of rows that can be read. -/
def RwsAt (w : World) (v : Value) (L : List Nat) : Prop :=
  ∃ (a : Option Addr) (c : Nat), v = .slice a L.length c ∧ (L.length ≤ c ∧ (a = none → c = 0)) ∧ L.length ≤ 10000 ∧ (∀ c ∈ L, RowLt 152 c) ∧
    ∀ i (h : i < L.length), ∃ b o, a = some ⟨b, o, none⟩ ∧ w.rangeAt b (o + i * 3) (rcells L[i])
theorem range_kept {w w' : World} {b o : Nat} {cs : List Value} (h : w.rangeAt b o cs) (hk : Kept w w') : w'.rangeAt b o cs := fun j v hj => hk.cell (h j v hj)
theorem RwsAt.kept {w w' : World} {v : Value} {L : List Nat} (h : RwsAt w v L) (hk : Kept w w') : RwsAt w' v L := by
  obtain ⟨a, c, h1, h2, h3, h4, h5⟩ := h
  exact ⟨a, c, h1, h2, h3, h4, fun i hi => let ⟨b, o, h6, h7⟩ := h5 i hi; ⟨b, o, h6, range_kept h7 hk⟩⟩
/-- Rows of the call's own. -/
def OwnRws (w : World) (B : Nat) (v : Value) (L : List Nat) : Prop :=
  w.ownsRow B 88 3 v L.length (L.flatMap rcells) ∧ L.length ≤ 10000 ∧ ∀ c ∈ L, RowLt 152 c
theorem OwnRws.kept {w w' : World} {B : Nat} {v : Value} {L : List Nat} (h : OwnRws w B v L) (hk : Kept w w') : OwnRws w' B v L := ⟨own_kept h.1 hk, h.2⟩
theorem OwnRws.mono {w : World} {B B' : Nat} {v : Value} {L : List Nat} (h : OwnRws w B v L) (hb : B' ≤ B) : OwnRws w B' v L := ⟨own_mono h.1 hb, h.2⟩
theorem OwnRws.nil (w : World) (B : Nat) : OwnRws w B (.slice none 0 0) [] := ⟨World.ownsRow_nil _ _ _ _, by simp, by simp⟩
theorem len_flat (L : List Nat) : (L.flatMap rcells).length = L.length * 3 := by
  induction L with
  | nil => rfl
  | cons c L ih => simp [rcells, ih]; omega
theorem flat_get (L : List Nat) : ∀ i (h : i < L.length) j, j < 3 → (L.flatMap rcells)[i * 3 + j]? = (rcells L[i])[j]? := by
  induction L with
  | nil => intro i h; simp at h
  | cons c L ih =>
    intro i h j hj
    rw [List.flatMap_cons]
    cases i with
    | zero => rw [List.getElem?_append_left (by simp [rcells]; omega)]; simp
    | succ i =>
      rw [List.getElem?_append_right (by simp [rcells]; omega), show (rcells c).length = 3 from rfl, show (i + 1) * 3 + j - 3 = i * 3 + j by omega]
      exact ih i (by simpa using h) j hj
theorem OwnRws.at {w : World} {B : Nat} {v : Value} {L : List Nat} (h : OwnRws w B v L) : RwsAt w v L := by
  obtain ⟨⟨h1, h2⟩, h3, h4⟩ := h
  rcases h2 with ⟨rfl, h6⟩ | ⟨g, cap, cur, rfl, h6, h7, h8, h9, h10, h11⟩
  · have : L = [] := List.eq_nil_of_length_eq_zero h6
    subst this
    exact ⟨none, 0, rfl, ⟨by simp, fun _ => rfl⟩, by simp, by simp, fun i h => by simp at h⟩
  · refine ⟨some ⟨g, 0, none⟩, cap, rfl, ⟨h8, fun h => by cases h⟩, h3, h4, fun i hi => ⟨g, 0, rfl, fun j u hj => ?_⟩⟩
    have hj3 : j < 3 := by
      have := (List.getElem?_eq_some_iff.1 hj).1
      simpa [rcells] using this
    have e1 : (cur.toList.take (L.length * 3))[i * 3 + j]? = (L.flatMap rcells)[i * 3 + j]? := by rw [h11]
    rw [List.getElem?_take_of_lt (by omega), flat_get L i hi j hj3, hj] at e1
    simp only [World.cell?, h7, Nat.zero_add]
    simpa using e1
theorem RwsAt.shape {w : World} {v : Value} {L : List Nat} (h : RwsAt w v L) : ∃ a c, v = .slice a L.length c := by
  obtain ⟨a, c, h, _⟩ := h; exact ⟨a, c, h⟩
/-- The greatest node of a row. -/
def TopIs (c : Nat) (r : Int) : Prop := (∀ j, c.testBit (24 + j) = true → (j : Int) ≤ r) ∧ (r = -1 ∨ ∃ i : Nat, r = i ∧ c.testBit (24 + i) = true)
def GTop (L : List Nat) (r : Int) : Prop := (∀ c ∈ L, ∀ j, c.testBit (24 + j) = true → (j : Int) ≤ r) ∧ (r = -1 ∨ ∃ i : Nat, r = i ∧ ∃ c ∈ L, c.testBit (24 + i) = true)
theorem bitLen_top {x : Nat} (h : x < 18446744073709551616) (h0 : x ≠ 0) : ∃ n, Lib.bitLen x = n + 1 ∧ n < 64 ∧ x.testBit n = true ∧ ∀ j, x.testBit j = true → j ≤ n := by
  obtain ⟨h1, h2, h3⟩ := Lib.bitLenAux_bounds 64 x h h0
  have h4 := Lib.bitLen_le x 64 (by omega) h
  unfold Lib.bitLen at *
  obtain ⟨n, hn⟩ : ∃ n, Lib.bitLenAux 64 x = n + 1 := ⟨Lib.bitLenAux 64 x - 1, by omega⟩
  rw [hn] at h2 h3 h4
  refine ⟨n, hn, by omega, ?_, fun j hj => ?_⟩
  · have h2' : 2 ^ n ≤ x := h2
    obtain ⟨i, hi, hb⟩ := Nat.exists_ge_and_testBit_of_ge_two_pow h2'
    by_cases e : i = n
    · subst e; exact hb
    · rw [Nat.testBit_lt_two_pow (Nat.lt_of_lt_of_le h3 (Nat.pow_le_pow_right (by omega) (by omega)))] at hb; cases hb
  · apply Nat.le_of_not_lt
    intro hlt
    rw [Nat.testBit_lt_two_pow (Nat.lt_of_lt_of_le h3 (Nat.pow_le_pow_right (by omega) (by omega)))] at hj; cases hj
theorem topIs_hi {c n : Nat} (h1 : (hiW c).testBit n = true) (h2 : ∀ j, (hiW c).testBit j = true → j ≤ n) : TopIs c ((64 + n : Nat) : Int) := by
  refine ⟨fun j hj => ?_, .inr ⟨64 + n, rfl, by rw [hiW_bit] at h1; rw [show 24 + (64 + n) = 88 + n by omega]; exact h1⟩⟩
  by_cases c1 : j < 64
  · omega
  · have := h2 (j - 64) (by rw [hiW_bit, show 88 + (j - 64) = 24 + j by omega]; exact hj)
    omega
theorem topIs_lo {c n : Nat} (h0 : hiW c = 0) (h1 : (loW c).testBit n = true) (h2 : ∀ j, (loW c).testBit j = true → j ≤ n) : TopIs c (n : Int) := by
  have hn : n < 64 := by rw [loW_bit] at h1; simp at h1; exact h1.1
  refine ⟨fun j hj => ?_, .inr ⟨n, rfl, by rw [loW_bit] at h1; simp at h1; exact h1.2⟩⟩
  by_cases c1 : j < 64
  · have := h2 j (by rw [loW_bit]; simp [c1, hj])
    omega
  · have h3 : (hiW c).testBit (j - 64) = true := by rw [hiW_bit, show 88 + (j - 64) = 24 + j by omega]; exact hj
    rw [h0] at h3; simp at h3
theorem topIs_none {c : Nat} (h0 : hiW c = 0) (h1 : loW c = 0) : TopIs c (-1) := by
  refine ⟨fun j hj => ?_, .inl rfl⟩
  exfalso
  by_cases c1 : j < 64
  · have h3 : (loW c).testBit j = true := by rw [loW_bit]; simp [c1, hj]
    rw [h1] at h3; simp at h3
  · have h3 : (hiW c).testBit (j - 64) = true := by rw [hiW_bit, show 88 + (j - 64) = 24 + j by omega]; exact hj
    rw [h0] at h3; simp at h3
theorem GTop.snoc {L : List Nat} {c : Nat} {r s : Int} (h : GTop L r) (hc : TopIs c s) : GTop (L ++ [c]) (max r s) := by
  obtain ⟨h1, h2⟩ := h
  obtain ⟨h3, h4⟩ := hc
  refine ⟨fun x hx j hj => ?_, ?_⟩
  · rcases List.mem_append.1 hx with hx | hx
    · have := h1 x hx j hj; omega
    · simp at hx; subst hx
      have := h3 j hj; omega
  · by_cases e : r ≤ s
    · rw [show max r s = s by omega]
      rcases h4 with h4 | ⟨i, h4, h5⟩
      · exact .inl h4
      · exact .inr ⟨i, h4, c, by simp, h5⟩
    · rw [show max r s = r by omega]
      rcases h2 with h2 | ⟨i, h2, x, hx, h5⟩
      · exact .inl h2
      · exact .inr ⟨i, h2, x, List.mem_append.2 (.inl hx), h5⟩
theorem GTop.nil : GTop [] (-1) := ⟨fun c h => by simp at h, .inl rfl⟩
end Go.Proofs.YteodabnjkikogaaGreat

/-
  slices.SortStableFunc at the rows of topdown, in the words of V3.
-/
namespace Go.Proofs.YteodabnjkikogaaGreat
open Go.Shelf Go.RowKit Go.Lib Go.Sort

set_option maxRecDepth 100000 in
theorem stable_none (p : Option Addr) (cap : Nat) (fv : Value) (w : World) : Calls Tryz.prog 192 #[.slice p 0 cap, .int .i64 0, fv] w fun e w' => e = .returned (.tuple #[]) ∧ w = w' := by
  have HI : Hid (∀ W, Calls Tryz.prog 201 #[.slice p 0 cap, .int .i64 0, .int .i64 0, fv] W fun e w' => e = .returned (.tuple #[]) ∧ W = w') := Lib.hid fun W => (AnyF.insertionSortCmpFunc_none rowLays p cap fv W).mono fun _ _ h => ⟨h.1, h.2.symm⟩
  go_enter Tryz.func192, Tryz.ntmps192
  go_wp2
  refine wp_loop_rounds 1 ?_
  rw [rounds_succ]
  go_wp2_with (go_at_call 201; refine (HI.out _).mono ?_; rintro e w2 ⟨rfl, rfl⟩)
  refine wp_loop_rounds 1 ?_
  rw [rounds_succ]
  go_wp2
  go_end0
  exact ⟨rfl, rfl⟩
theorem flat_getE (L : List Nat) : ∀ i (h : i < L.length) j, j < 3 → (L.flatMap encR)[i * 3 + j]? = (encR L[i])[j]? := by
  induction L with
  | nil => intro i h; simp at h
  | cons c L ih =>
    intro i h j hj
    rw [List.flatMap_cons]
    cases i with
    | zero => rw [List.getElem?_append_left (by simp [encR, rcells]; omega)]; simp
    | succ i =>
      rw [List.getElem?_append_right (by simp [encR, rcells]; omega), show (encR c).length = 3 from rfl, show (i + 1) * 3 + j - 3 = i * 3 + j by omega]
      exact ih i (by simpa using h) j hj
theorem len_flatE (L : List Nat) : (L.flatMap encR).length = L.length * 3 := by
  induction L with
  | nil => rfl
  | cons c L ih => simp [encR, rcells, ih]; omega
theorem flatK_list (L : List Nat) : (flatK encR 3 L.toArray).toList = L.flatMap encR := by
  apply List.ext_getElem?
  intro t
  by_cases h : t < L.length * 3
  · have hi : t / 3 < L.length := by omega
    have e := flat_getE L (t / 3) hi (t % 3) (by omega)
    rw [show t / 3 * 3 + t % 3 = t by omega] at e
    rw [e]
    have e2 : (flatK encR 3 L.toArray)[t]! = (encR L.toArray[t / 3]!)[t % 3]! := get_flatK encR 3 L.toArray t (by simpa using h)
    have e3 : (flatK encR 3 L.toArray).toList[t]? = some (flatK encR 3 L.toArray)[t]! := by
      have hs : t < (flatK encR 3 L.toArray).size := by rw [size_flatK]; simpa using h
      rw [Array.getElem?_toList, Array.getElem?_eq_getElem hs, getElem!_pos _ t hs]
    rw [e3, e2]
    have e4 : L.toArray[t / 3]! = L[t / 3] := by rw [getElem!_pos _ _ (by simpa using hi)]; simp
    rw [e4]
    have h3 : t % 3 < (encR L[t / 3]).length := by show t % 3 < 3; omega
    rw [List.getElem?_eq_getElem h3, getElem!_pos (encR L[t / 3]) (t % 3) h3]
  · rw [List.getElem?_eq_none (by rw [Array.length_toList, size_flatK]; simp; omega), List.getElem?_eq_none (by rw [len_flatE]; omega)]
theorem flat_same {L : List Nat} (h : ∀ c ∈ L, RowLt 152 c) : L.flatMap encR = L.flatMap rcells := by
  induction L with
  | nil => rfl
  | cons c L ih =>
    rw [List.flatMap_cons, List.flatMap_cons, ih fun x hx => h x (List.mem_cons_of_mem _ hx)]
    unfold encR
    rw [lowR_of (h c (List.mem_cons_self ..))]
theorem sortRows_any (B : Nat) (v : Value) (L : List Nat) (w : World) (hv : OwnRws w B v L) (hB : B ≤ w.heap.size) :
    Calls Tryz.prog 192 #[v, .int .i64 L.length, .func (.func 159) #[] #[]] w fun e w' => e = .returned (.tuple #[]) ∧ ∃ M : List Nat, M.Perm L ∧ M.Pairwise (fun a b => pc a ≤ pc b) ∧ OwnRws w' B v M ∧ Below B w w' := by
  obtain ⟨hv1, hv2, hv3⟩ := hv
  by_cases h0 : L = []
  · subst h0
    have hv4 := hv1
    obtain ⟨_, h2⟩ := hv1
    have : ∃ p c, v = .slice p 0 c := by
      rcases h2 with ⟨h2, _⟩ | ⟨g, cap, cur, h2, _⟩
      · exact ⟨_, _, h2⟩
      · exact ⟨_, cap, by simpa using h2⟩
    obtain ⟨p, c, rfl⟩ := this
    exact (stable_none p c _ w).mono fun e w' ⟨h3, h4⟩ => ⟨h3, [], .refl _, by simp, by subst h4; exact ⟨hv4, by simp, by simp⟩, by subst h4; exact Below.refl _ _⟩
  · obtain ⟨h1, h2⟩ := hv1
    rcases h2 with ⟨_, h2⟩ | ⟨g, cap, cur, rfl, hg, hh, hn, hcap, hsz, htk⟩
    · exact absurd (List.eq_nil_of_length_eq_zero h2) h0
    · have hH : HoldsK encR 3 w g 0 L.toArray := by
        intro j hj
        have hj' : j < L.length * 3 := by rw [size_flatK] at hj; simpa using hj
        refine ⟨?_, by simp [World.frozen?, hh]⟩
        have e1 : (cur.toList.take (L.length * 3))[j]? = (L.flatMap rcells)[j]? := by rw [htk]
        rw [List.getElem?_take_of_lt (by omega), ← flat_same hv3, ← flatK_list] at e1
        simp only [World.cell?, hh, Nat.zero_add]
        rw [show cur[j]? = cur.toList[j]? from by simp]
        simp only [Option.isSome_none, Bool.false_eq_true, if_false]
        rw [e1, Array.getElem?_toList, Array.getElem?_eq_getElem hj, getElem!_pos _ j hj]
        rfl
      have hS := stable_any g 0 cap L.toArray w hH (heap_lt hh) (by simp; omega)
      simp only [List.size_toArray] at hS
      refine hS.mono fun e w' ⟨h3, dn, hm, n, os, h4⟩ => ⟨h3, dn.toList, ?_⟩
      clear hS h3
      obtain ⟨⟨hp1, hp2, hp3⟩, hs⟩ := hm
      have hdn : dn.size = L.length := by simpa using hp1
      have hperm : dn.toList.Perm L := by
        have e1 : dn.extract 0 L.length = dn := by rw [← hdn]; simp
        have e2 : L.toArray.extract 0 L.length = L.toArray := by simp
        rw [e1, e2] at hp3
        simpa using hp3
      have hlt : ∀ c ∈ dn.toList, RowLt 152 c := fun c hc => hv3 c (hperm.mem_iff.1 hc)
      refine ⟨hperm, ?_, ?_, ?_⟩
      · rw [List.pairwise_iff_getElem]
        intro i j hi hj hij
        have hi' : i < dn.size := by simpa using hi
        have hj' : j < dn.size := by simpa using hj
        have h := hs i j (Nat.zero_le _) hij (by omega)
        rw [ltR] at h
        simp at h
        rw [getElem!_pos dn i hi', getElem!_pos dn j hj', lowR_of (hlt _ (by simp)), lowR_of (hlt _ (by simp))] at h
        simpa using h
      · subst h4
        have hg1 := heap_putRow (id : Value → Value) w n g 0 (flatK encR 3 dn) hh
        have hps := putCells_take (id : Value → Value) (flatK encR 3 dn) cur (L.length * 3) (by rw [size_flatK, hdn]) (by rw [hsz]; exact Nat.mul_le_mul_right 3 hn)
        refine ⟨⟨by rw [len_flat], .inr ⟨g, cap, putCells id 0 (flatK encR 3 dn) cur, by simp [hdn], hg, ?_, by simp [hdn]; exact hn, hcap, by rw [hps.1]; exact hsz, ?_⟩⟩, by simp; omega, hlt⟩
        · show (grow (putRow id (Sort.ahead w n) g 0 (flatK encR 3 dn)) os).heap[g]? = _
          rw [heap_grow_old _ _ (heap_lt hg1)]; exact hg1
        · have := hps.2
          rw [show dn.toList.length * 3 = L.length * 3 by simp [hdn], this, ← flat_same hlt]
          have e := flatK_list dn.toList
          simp only [Array.toArray_toList] at e
          rw [e]; simp
      · subst h4
        refine ⟨rfl, rfl, rfl, ?_, fun k hk => ?_⟩
        · show w.heap.size ≤ ((w.heap.modify g _) ++ os).size
          simp
        · have hkg : k ≠ g := by omega
          show (grow (putRow id (Sort.ahead w n) g 0 (flatK encR 3 dn)) os).heap[k]? = _
          rw [heap_grow_old _ _ (by show k < (w.heap.modify g _).size; simp; omega)]
          exact heap_putRow_ne (id : Value → Value) w n g 0 k _ hkg
set_option maxRecDepth 100000 in
theorem sortStable_any (B : Nat) (v : Value) (L : List Nat) (w : World) (hv : OwnRws w B v L) (hB : B ≤ w.heap.size) :
    Calls Tryz.prog 158 #[v, .func (.func 159) #[] #[]] w fun e w' => e = .returned (.tuple #[]) ∧ ∃ M : List Nat, M.Perm L ∧ M.Pairwise (fun a b => pc a ≤ pc b) ∧ OwnRws w' B v M ∧ Below B w w' := by
  have HC := Lib.hid (sortRows_any B v L w hv hB)
  obtain ⟨a, c, rfl⟩ := hv.at.shape
  have hl := hv.2.1
  obtain ⟨n, hn⟩ : ∃ n, n = L.length := ⟨_, rfl⟩
  rw [← hn] at hl HC ⊢
  clear hv hn
  go_enter Tryz.func158, Tryz.ntmps158
  go_wp2_with (go_at_call 192; refine HC.out.mono ?_; rintro e w2 ⟨rfl, M, h1, h2, h3, h4⟩)
  go_end0
  exact ⟨rfl, M, h1, h2, h3, h4⟩
end Go.Proofs.YteodabnjkikogaaGreat

/-
  Walks: the list of topdown: add.
-/
namespace Go.Proofs.YteodabnjkikogaaGreat
open Go.RowKit

def addK (L : List Nat) (c : Nat) : List Nat := if L.length ≤ 4096 then L ++ [c] else L
/-- The list behind the pointer. -/
def ListAt (w : World) (gl B : Nat) (v : Value) (L : List Nat) : Prop := RowAt w gl 135 [v] ∧ OwnRws w B v L
/-- What the list's methods leave: but for the pointer's cell and the list's own row, all that was. -/
structure Frm (gl : Nat) (v v' : Value) (w w' : World) : Prop where
  os : w'.os = w.os
  tape : w'.tape = w.tape
  output : w'.output = w.output
  size : w.heap.size ≤ w'.heap.size
  block : ∀ k, k < w.heap.size → k ≠ gl → some k ≠ v.ownBlock → w'.heap[k]? = w.heap[k]?
  own : v'.ownBlock = v.ownBlock ∨ ∀ g, v'.ownBlock = some g → w.heap.size ≤ g
theorem Frm.of_kept {gl : Nat} {v : Value} {w w' : World} (h : Kept w w') : Frm gl v v w w' := ⟨h.os, h.tape, h.output, h.size, fun k hk _ _ => h.block k hk, .inl rfl⟩
theorem Frm.trans {gl : Nat} {v v1 v2 : Value} {w w1 w2 : World} (h : Frm gl v v1 w w1) (k : Frm gl v1 v2 w1 w2) : Frm gl v v2 w w2 := by
  have hs := h.size
  refine ⟨k.os.trans h.os, k.tape.trans h.tape, k.output.trans h.output, Nat.le_trans h.size k.size, fun b hb h1 h2 => ?_, ?_⟩
  · refine (k.block b (by omega) h1 fun e => ?_).trans (h.block b hb h1 h2)
    rcases h.own with ho | ho
    · rw [ho] at e; exact h2 e
    · have := ho b e.symm; omega
  · rcases k.own with ko | ko
    · rw [ko]; exact h.own
    · exact .inr fun g hg => by have := ko g hg; omega
theorem OwnRws.own_ge {w : World} {B : Nat} {v : Value} {L : List Nat} (h : OwnRws w B v L) {g : Nat} (hg : v.ownBlock = some g) : B ≤ g ∧ g < w.heap.size := h.1.lt g hg
theorem Frm.below {gl B : Nat} {v v' : Value} {w w' : World} {L : List Nat} (h : Frm gl v v' w w') (hv : OwnRws w B v L) (hB : B ≤ gl) (hl : B ≤ w.heap.size) : Below B w w' :=
  ⟨h.os, h.tape, h.output, h.size, fun k hk => h.block k (by omega) (by omega) fun e => by have := (hv.own_ge e.symm).1; omega⟩
theorem Frm.cell {gl : Nat} {v v' : Value} {w w' : World} (h : Frm gl v v' w w') {b o : Nat} {u : Value} (hb : b < w.heap.size) (h1 : b ≠ gl) (h2 : some b ≠ v.ownBlock) (hc : w.cell? ⟨b, o, none⟩ = some u) : w'.cell? ⟨b, o, none⟩ = some u := by
  have := h.block b hb h1 h2
  simp only [World.cell?, this] at hc ⊢
  exact hc
theorem heap_new2d (w : World) (C O : Obj) : ((w.alloc C).alloc O).drew.heap[w.heap.size + 1]? = some O := by
  refine (Below.block (Kept.refl ((w.alloc C).alloc O)).drew (w.heap.size + 1) (by simp)).trans ?_
  simpa using heap_alloc_new (w.alloc C) O
theorem list_apart {w : World} {gl B : Nat} {v : Value} {L : List Nat} {cs : List Value} (h : OwnRws w B v L) (hx : RowAt w gl 135 cs) : some gl ≠ v.ownBlock := by
  obtain ⟨⟨_, h2⟩, _⟩ := h
  obtain ⟨cur, hx1, _⟩ := hx
  intro e
  rcases h2 with ⟨rfl, _⟩ | ⟨g, cap, cur2, rfl, _, h7, _⟩
  · cases e
  · have : gl = g := by simpa [Value.ownBlock] using e
    subst this
    rw [hx1] at h7
    injection h7 with h7
    injection h7 with _ h8 _
    exact absurd h8 (by decide)
theorem OwnRws.store_other {w : World} {B g : Nat} {v : Value} {L : List Nat} (h : OwnRws w B v L) (hg : some g ≠ v.ownBlock) (i : Nat) (u : Value) : OwnRws (w.setCell ⟨g, i, none⟩ u) B v L := by
  obtain ⟨⟨h1, h2⟩, h3⟩ := h
  refine ⟨⟨h1, h2.imp id ?_⟩, h3⟩
  rintro ⟨b, cap, cur, rfl, h5, h6, h7⟩
  refine ⟨b, cap, cur, rfl, h5, ?_, h7⟩
  have hne : b ≠ g := fun e => hg (by simp [Value.ownBlock, e])
  exact (Below.heap_setCell w ⟨g, i, none⟩ u b hne).trans h6
end Go.Proofs.YteodabnjkikogaaGreat

/-
  Walks: the list of topdown: choose.
-/
namespace Go.Proofs.YteodabnjkikogaaGreat
open Go.RowKit

theorem chooseK_many (V : Nat) : ∀ (args : List Int) (k r : Nat), args.length < k → chooseK V args k r = []
  | [], k, r, h => by unfold chooseK; rw [if_neg (by simp at h; omega)]
  | a :: l, k, r, h => by
    simp at h
    unfold chooseK
    rw [if_neg (by omega), chooseK_many V l (k - 1) _ (by omega), chooseK_many V l k _ (by omega)]; rfl
theorem take_app (l m : List Nat) (n : Nat) : (l.take n ++ m).take n = (l ++ m).take n := by
  rw [List.take_append, List.take_append, List.take_take, Nat.min_self, List.length_take]
  congr 1
  by_cases h : n ≤ l.length
  · rw [Nat.min_eq_left h, Nat.sub_self, show n - l.length = 0 by omega]
  · rw [Nat.min_eq_right (by omega)]
theorem addK_take {L : List Nat} {c : Nat} (h : L.length ≤ 4097) : addK L c = (L ++ [c]).take 4097 := by
  unfold addK
  split
  · rw [List.take_of_length_le (by simp; omega)]
  · rw [List.take_append, show 4097 - L.length = 0 by omega, List.take_of_length_le (by omega)]; simp
theorem ints_tail {w : World} {b o n c : Nat} {x : Int} {l : List Int} (h : IntsAt w (.slice (some ⟨b, o, none⟩) n c) (x :: l)) (hc : 2 ≤ c) : IntsAt w (.slice (some ⟨b, o + 1, none⟩) (n - 1) (c - 1)) l := by
  obtain ⟨a, c', h1, h2, h3, h4⟩ := h
  injection h1 with e1 e2 e3
  subst e1 e2 e3
  simp at h2 h3
  refine ⟨some ⟨b, o + 1, none⟩, c - 1, by simp, ⟨by omega, fun h => by cases h⟩, by omega, fun i hi => ?_⟩
  obtain ⟨b', o', h5, h6⟩ := h4 (i + 1) (by simpa using hi)
  injection h5 with h5
  injection h5 with h7 h8
  subst h7 h8
  exact ⟨b, o + 1, rfl, by rw [show o + 1 + i = o + (i + 1) by omega, h6]; simp⟩
theorem ListAt.kept {w w' : World} {gl B : Nat} {v : Value} {L : List Nat} (h : ListAt w gl B v L) (hk : Kept w w') : ListAt w' gl B v L := ⟨h.1.kept hk, h.2.kept hk⟩
end Go.Proofs.YteodabnjkikogaaGreat

/-
  Walks: the list of topdown: expand.
-/
namespace Go.Proofs.YteodabnjkikogaaGreat
open Go.RowKit

/-- Behind expand's first two statements. -/
def ExpSt (W wx : World) (V : Nat) (fs : Value) (T : Int) (y0 y1 y2 : Nat) (kd kk : Int) (us : Value) : Prop :=
  Kept W wx ∧ RowAt wx W.heap.size 24 [.int .i64 V, fs, .int .i64 T] ∧ RowAt wx (W.heap.size + 1) 88 [.int .i64 y0, .int .u64 y1, .int .u64 y2] ∧ RowAt wx (W.heap.size + 1 + 1) 64 [.int .i64 kd, .int .i64 kk, us]
theorem RowAt.made2 (w : World) (cs : Array Value) (e : TypeId) (o : Obj) : RowAt ((w.alloc (.cells cs e)).alloc o) w.heap.size e cs.toList := (RowAt.made w cs e).kept ((Kept.refl _).alloc o)
end Go.Proofs.YteodabnjkikogaaGreat

/-
  Walks: topdown.least.
-/
namespace Go.Proofs.YteodabnjkikogaaGreat
open Go.RowKit

theorem addr_add (b o j : Nat) : (⟨b, o, none⟩ : Addr).add j = ⟨b, o + j, none⟩ := by unfold Addr.add; split <;> simp_all
def DecidesR (g : Nat) (lb : Array Value) (p : Nat → Bool) (w : World) : Prop :=
  ∀ (W : World) (x : Nat), Kept w W → RowLt 152 x → Calls Tryz.prog g (#[rowV x] ++ lb) W fun e W' => e = .returned (.bool (p x)) ∧ Kept W W'
set_option maxRecDepth 100000 in
theorem indexR_any (g : Nat) (lb : Array Value) (eg : ∀ args w, (callFunc g args).run Tryz.prog w = .ok (.enter g args) w) (p : Nat → Bool) (v : Value) (L : List Nat) (w : World)
    (hp : DecidesR g lb p w) (hv : RwsAt w v L) :
    Calls Tryz.prog 193 #[v, .func (.func g) #[] lb] w fun e w' => (∃ n : Int, e = .returned (.int .i64 n) ∧ (decide (0 ≤ n) = L.any p)) ∧ Kept w w' := by
  obtain ⟨a, c, rfl, ⟨hc, _⟩, hl, hlt, hx⟩ := hv
  obtain ⟨n, hn⟩ : ∃ n, n = L.length := ⟨_, rfl⟩
  have hbig : n ≤ 10000 := by omega
  rw [← hn]
  have HX := Lib.hid hx
  have HN := Lib.hid hn
  have HP := Lib.hid hp
  have HLT := Lib.hid hlt
  clear hx hn hp hl hc hlt
  go_enter Tryz.func193, Tryz.ntmps193
  go_wp2
  go_loopg [8] n (fun kx i wr => ∃ k : Nat, k ≤ n ∧ i = .int .i64 k ∧ n - k ≤ kx ∧ Hid (∀ x ∈ L.take k, p x = false) ∧ Hid (Kept w wr))
  case atStart => exact ⟨0, Nat.zero_le _, rfl, by omega, Lib.hid (by simp), Lib.hid (Kept.refl _)⟩
  case round =>
    obtain ⟨k, hk, rfl, hkx, HF, HK⟩ := hrel
    by_cases hlt : k < n
    · have hkl : k < L.length := by have := HN.out; omega
      obtain ⟨b, o, rfl, hrg⟩ := HX.out k hkl
      have hrg2 := range_kept hrg HK.out
      have hxl := HLT.out L[k] (List.getElem_mem _)
      obtain ⟨x, hxx⟩ : ∃ x, x = L[k] := ⟨_, rfl⟩
      rw [← hxx] at hrg2 hxl
      have HXX := Lib.hid hxx
      have HRG : Hid (wr.rangeAt b (o + k * 3) [.int .i64 (evW x), .int .u64 (loW x), .int .u64 (hiW x)]) := Lib.hid hrg2
      have HC : Hid (∀ W, Kept w W → Calls Tryz.prog g (#[.agg #[.int .i64 (evW x), .int .u64 (loW x), .int .u64 (hiW x)]] ++ lb) W fun e W' => e = .returned (.bool (p x)) ∧ Kept W W') := Lib.hid fun W hk => HP.out W x hk hxl
      have hkn : (k : Int) < (n : Int) := by omega
      obtain ⟨z0, hz0⟩ : ∃ z, z = evW x := ⟨_, rfl⟩
      obtain ⟨z1, hz1⟩ : ∃ z, z = loW x := ⟨_, rfl⟩
      obtain ⟨z2, hz2⟩ : ∃ z, z = hiW x := ⟨_, rfl⟩
      rw [← hz0, ← hz1, ← hz2] at HRG HC
      clear hrg hrg2 hxx hxl hz0 hz1 hz2
      cases hq : p x with
      | true =>
        rw [hq] at HC
        have HQ := Lib.hid hq
        clear hq
        go_wp2_with (first | (with_reducible refine wpList_load_mid rfl 88 _ rfl b (o + k * 3) rfl _ _ HRG.out Tryz.underlying88 rfl (by kernel_rfl) ?_) | (go_at_fn g; refine (HC.out _ HK.out).mono ?_; rintro e w' ⟨rfl, hK2⟩))
        go_ret
        refine ⟨⟨k, rfl, ?_⟩, HK.out.trans hK2⟩
        have : L.any p = true := List.any_eq_true.2 ⟨x, by rw [HXX.out]; exact List.getElem_mem _, HQ.out⟩
        rw [this]; simp
      | false =>
        rw [hq] at HC
        have HQ := Lib.hid hq
        clear hq
        go_wp2_with (first | (with_reducible refine wpList_load_mid rfl 88 _ rfl b (o + k * 3) rfl _ _ HRG.out Tryz.underlying88 rfl (by kernel_rfl) ?_) | (go_at_fn g; refine (HC.out _ HK.out).mono ?_; rintro e w' ⟨rfl, hK2⟩))
        go_roundg (n - (k + 1))
        case measure => omega
        case rel =>
          refine ⟨k + 1, by omega, by go_num, Nat.le_refl _, Lib.hid ?_, Lib.hid (HK.out.trans hK2)⟩
          intro y hy
          rw [List.take_succ_eq_append_getElem hkl] at hy
          rcases List.mem_append.1 hy with hy | hy
          · exact HF.out y hy
          · simp at hy; rw [hy, ← HXX.out]; exact HQ.out
    · go_wp2
      go_ret
      refine ⟨⟨-1, rfl, ?_⟩, HK.out⟩
      have hh := HF.out
      rw [List.take_of_length_le (by have := HN.out; omega)] at hh
      have : L.any p = false := by rw [List.any_eq_false]; intro y hy; simp [hh y hy]
      rw [this]; rfl
set_option maxRecDepth 100000 in
theorem hasR_any (g : Nat) (lb : Array Value) (eg : ∀ args w, (callFunc g args).run Tryz.prog w = .ok (.enter g args) w) (p : Nat → Bool) (v : Value) (L : List Nat) (w : World)
    (hp : DecidesR g lb p w) (hv : RwsAt w v L) :
    Calls Tryz.prog 161 #[v, .func (.func g) #[] lb] w fun e w' => e = .returned (.bool (L.any p)) ∧ Kept w w' := by
  have h := indexR_any g lb eg p v L w hp hv
  have H := Lib.hid h
  clear h hp hv eg
  obtain ⟨r, hr⟩ : ∃ r, r = L.any p := ⟨_, rfl⟩
  rw [← hr] at H ⊢
  clear hr
  go_enter Tryz.func161, Tryz.ntmps161
  go_wp2_with (go_at_call 193; refine H.out.mono ?_; rintro e w' ⟨⟨n, rfl, hn⟩, hK⟩; have HN := Lib.hid hn; clear hn)
  go_ret
  exact ⟨by rw [← HN.out]; rfl, hK⟩
set_option maxRecDepth 100000 in
theorem decides_part (c B : Nat) (w : World) (hc : RowLt 152 c) (h0 : w.cell? ⟨B, 0, none⟩ = some (.int .i64 (evW c))) (h1 : w.cell? ⟨B, 1, none⟩ = some (.int .u64 (loW c))) (h2 : w.cell? ⟨B, 2, none⟩ = some (.int .u64 (hiW c))) :
    DecidesR 162 #[.pointer (some ⟨B, 0, none⟩)] (fun t => subN t c) w := by
  intro W x hK hx
  show Calls Tryz.prog _ _ W fun e W' => e = .returned (.bool (subN x c)) ∧ Kept W W'
  have h0' := hK.cell h0
  have h1' := hK.cell h1
  have h2' := hK.cell h2
  have HP : Hid (∀ W', Calls Tryz.prog 163 #[rowV x, rowV c] W' fun e w' => e = .returned (.bool (subN x c)) ∧ ∃ C O, w' = (W'.alloc C).alloc O) := Lib.hid fun W' => rpart_any hx hc W'
  have hbl : B < W.heap.size := by
    by_cases h : B < W.heap.size
    · exact h
    · simp [World.cell?, Array.getElem?_eq_none (Nat.le_of_not_lt h)] at h0'
  unfold rowV at *
  generalize subN x c = q at *
  generalize evW c = y0 at *
  generalize loW c = y1 at *
  generalize hiW c = y2 at *
  generalize evW x = z0 at *
  generalize loW x = z1 at *
  generalize hiW x = z2 at *
  clear h0 h1 h2 hK hx hc
  show Calls Tryz.prog 162 #[.agg #[.int .i64 z0, .int .u64 z1, .int .u64 z2], .pointer (some ⟨B, 0, none⟩)] W _
  go_enter Tryz.func162, Tryz.ntmps162
  go_wp2_with (go_at_call 163; refine (HP.out _).mono ?_; rintro e w' ⟨rfl, C, O, rfl⟩)
  go_ret
  exact ⟨rfl, (((Kept.refl _).alloc _).alloc _).alloc _⟩
theorem minN_take (l : List Nat) (k : Nat) (h : k < l.length) : minN (l.take (k + 1)) = keepN (minN (l.take k)) l[k] := by
  unfold minN
  rw [List.take_succ_eq_append_getElem h, List.foldl_append]; rfl
theorem range_row (w : World) (x0 x1 x2 : Value) (e : TypeId) : (w.alloc (.cells #[x0, x1, x2] e)).rangeAt w.heap.size 0 [x0, x1, x2] := by
  intro j v hj
  match j, hj with
  | 0, hj => simp at hj; subst hj; simp
  | 1, hj => simp at hj; subst hj; simp
  | 2, hj => simp at hj; subst hj; simp
end Go.Proofs.YteodabnjkikogaaGreat

/-
  Plain: one round of the top-down search, whatever the order of the rows.
-/
namespace Go.Proofs.YteodabnjkikogaaGreat

/-- Where the search stands: rows L in some order, steps done, what is still to come. -/
structure Stand (V T : Nat) (f : Fm) (L st : List Nat) (m : Nat) : Prop where
  le : m ≤ f.nodes.length
  lt : ∀ r ∈ L, RowLt (24 + m) r
  mkd : ∀ r ∈ L, Marked V (belowK V T f.nodes) r
  len : L.length ≤ 1024
  run : ∃ R : List Nat, L.Perm R ∧ topK V T f.nodes = (runK V f.nodes m R).map fun p => (p.1, st ++ p.2)
theorem Stand.start {V T : Nat} {f : Fm} (hok : Ok f V T) : Stand V T f [cond V T] [] f.nodes.length := by
  have hT := hok.tlt
  refine ⟨Nat.le_refl _, fun r hr => ?_, fun r hr => ?_, by simp, ⟨[cond V T], .refl _, ?_⟩⟩
  · simp at hr; subst hr; exact rowLt_cond (by omega) hok.v24
  · simp at hr; subst hr
    refine marked_cond (by omega) hok.v24 ?_
    unfold belowK
    refine belowGo_keep V f.nodes _ _ _ ?_
    rw [List.getD_eq_getElem?_getD, Int.toNat_natCast, List.getElem?_set_self (by simp; omega)]; rfl
  · unfold topK
    cases runK V f.nodes f.nodes.length [cond V T] with
    | none => rfl
    | some p => rfl
/-- No row has a node left. -/
theorem Stand.done {V T : Nat} {f : Fm} {L st : List Nat} {m : Nat} (h : Stand V T f L st m) (hn : ∀ c ∈ L, ∀ j, c.testBit (24 + j) = true → False) : ∃ R, topK V T f.nodes = some (R, st) ∧ L.Perm R := by
  obtain ⟨R, hp, hr⟩ := h.run
  refine ⟨R, ?_, hp⟩
  rw [hr, runK_skip V f.nodes 0 R m (Nat.zero_le _) fun j _ _ => ?_]
  · show some (R, st ++ []) = _
    rw [List.append_nil]
  · rw [List.any_eq_false]
    intro r hr hb
    exact hn r (hp.mem_iff.2 hr) j hb
/-- A node is expanded. -/
theorem Stand.at {V T : Nat} {f : Fm} {L st : List Nat} {m i : Nat} (h : Stand V T f L st m) (hi : ∃ c ∈ L, c.testBit (24 + i) = true) (hmax : ∀ c ∈ L, ∀ j, c.testBit (24 + j) = true → j ≤ i) :
    i < m ∧ (belowK V T f.nodes).getD (V + i) false = true ∧ ∃ R : List Nat, L.Perm R ∧ R.any (fun r => r.testBit (24 + i)) = true ∧ topK V T f.nodes = (runK V f.nodes (i + 1) R).map fun p => (p.1, st ++ p.2) := by
  obtain ⟨c, hc, hb⟩ := hi
  have him : i < m := by have := h.lt c hc _ hb; omega
  obtain ⟨R, hp, hr⟩ := h.run
  refine ⟨him, h.mkd c hc i hb, R, hp, List.any_eq_true.2 ⟨c, hp.mem_iff.1 hc, hb⟩, ?_⟩
  rw [hr, runK_skip V f.nodes (i + 1) R m (by omega) fun j h1 _ => ?_]
  rw [List.any_eq_false]
  intro r hr hb
  have := hmax r (hp.mem_iff.2 hr) j hb
  omega
theorem Stand.full {V T : Nat} {f : Fm} {L st : List Nat} {m i : Nat} (h : Stand V T f L st m) (hi : ∃ c ∈ L, c.testBit (24 + i) = true) (hmax : ∀ c ∈ L, ∀ j, c.testBit (24 + j) = true → j ≤ i)
    (hl : 4096 < (expK V (f.nodes.getD i noNd) i L).length) : topK V T f.nodes = none := by
  obtain ⟨_, _, R, hp, ha, hr⟩ := h.at hi hmax
  rw [hr]
  conv => lhs; unfold runK
  rw [if_pos ha, if_neg (by rw [← (expK_perm (V := V) (i := i) (x := f.nodes.getD i noNd) hp).length_eq]; omega)]; rfl
theorem Stand.many {V T : Nat} {f : Fm} {L M st : List Nat} {m i : Nat} (h : Stand V T f L st m) (hi : ∃ c ∈ L, c.testBit (24 + i) = true) (hmax : ∀ c ∈ L, ∀ j, c.testBit (24 + j) = true → j ≤ i)
    (hM : M.Perm (minK (expK V (f.nodes.getD i noNd) i L))) (hl : 1024 < M.length) : topK V T f.nodes = none := by
  obtain ⟨_, _, R, hp, ha, hr⟩ := h.at hi hmax
  have he := minK_perm (expK_perm (V := V) (i := i) (x := f.nodes.getD i noNd) hp)
  rw [hr]
  conv => lhs; unfold runK
  rw [if_pos ha]
  split
  · rw [if_neg (by rw [← he, ← hM.length_eq]; omega)]; rfl
  · rfl
theorem Stand.next {V T : Nat} {f : Fm} (hok : Ok f V T) {L M st : List Nat} {m i : Nat} (h : Stand V T f L st m) (hi : ∃ c ∈ L, c.testBit (24 + i) = true) (hmax : ∀ c ∈ L, ∀ j, c.testBit (24 + j) = true → j ≤ i)
    (hl4 : (expK V (f.nodes.getD i noNd) i L).length ≤ 4096) (hM : M.Perm (minK (expK V (f.nodes.getD i noNd) i L))) (hl : M.length ≤ 1024) : Stand V T f M (st ++ [M.length]) i := by
  obtain ⟨him, hmk, R, hp, ha, hr⟩ := h.at hi hmax
  have hle := h.le
  have hil : i < f.nodes.length := by omega
  have hnd : f.nodes.getD i noNd = f.nodes[i] := by simp [List.getD_eq_getElem?_getD, hil]
  have hmem : ∀ r ∈ M, r ∈ expK V (f.nodes.getD i noNd) i L := fun r hr => mem_minK (hM.mem_iff.1 hr)
  refine ⟨by omega, fun r hr => ?_, fun r hr => ?_, hl, ⟨minK (expK V (f.nodes.getD i noNd) i R), ?_, ?_⟩⟩
  · refine rowLt_expK hok.v24 (by rw [hnd]; exact hok.args i hil) (fun c hc j hj => ?_) r (hmem r hr)
    by_cases h24 : j < 24
    · omega
    · have := hmax c hc (j - 24) (by rw [show 24 + (j - 24) = j by omega]; exact hj)
      omega
  · exact marked_expK hok.v24 h.mkd (fun hk a ha => by rw [hnd] at ha; exact ⟨(hok.args i hil a ha).1, below_closed V T f hok i hil hk a ha⟩) r (hmem r hr)
  · rw [← minK_perm (expK_perm (V := V) (i := i) (x := f.nodes.getD i noNd) hp)]; exact hM
  · rw [hr]
    have he := minK_perm (expK_perm (V := V) (i := i) (x := f.nodes.getD i noNd) hp)
    conv => lhs; unfold runK
    rw [if_pos ha, if_pos (by rw [← (expK_perm (V := V) (i := i) (x := f.nodes.getD i noNd) hp).length_eq]; exact hl4), if_pos (by rw [← he, ← hM.length_eq]; exact hl), ← he, ← hM.length_eq]
    cases runK V f.nodes i (minK (expK V (f.nodes.getD i noNd) i L)) with
    | none => rfl
    | some p => show some _ = some _; simp
theorem expK_take (V : Nat) (x : Nd) (i : Nat) (L : List Nat) (k : Nat) (h : k < L.length) : expK V x i (L.take (k + 1)) = expK V x i (L.take k) ++ expR V x i L[k] := by
  unfold expK
  rw [List.take_succ_eq_append_getElem h, List.flatMap_append]; simp
end Go.Proofs.YteodabnjkikogaaGreat

/-
  Walks: bottomup.Cuts.
-/
namespace Go.Proofs.YteodabnjkikogaaGreat
open Go.RowKit

def cutsK (V T : Nat) (nodes : List Nd) : Option (List Nat) := (famsK V T nodes).map fun l => if T < V then [2 ^ T] else l.getD (T - V) []
end Go.Proofs.YteodabnjkikogaaGreat

/-
  Walks: faultlinebase.Num, Ints, Rows.
-/
namespace Go.Proofs.YteodabnjkikogaaGreat
open Go.RowKit

theorem as_errno (v : Value) (w : World) : (Instr.typeAssert (.iface 56 v) 36 56 true).run Tryz.prog w = .ok (.tuple #[v, .bool true]) w := by kernel_rfl
set_option maxRecDepth 100000 in
theorem num_eq (c : Nat) (w : World) (hc : c ≤ 9223372036854775807) : Calls Tryz.prog 12 #[errV c] w fun e w' => e = .returned (.int .i64 c) ∧ w = w' := by
  by_cases h : c = 0
  · subst h
    rw [errV_zero]
    go_enter Tryz.func12, Tryz.ntmps12
    go_wp2
    refine bodyPost_ret (v := .int .i64 0) ?_ rfl ⟨rfl, rfl⟩
    simp [results, Tryz.results12, go_sem]
  · rw [errV_pos h]
    clear h
    go_enter Tryz.func12, Tryz.ntmps12
    go_wp2
    rw [as_errno]
    go_wp2
    go_ret
    exact ⟨rfl, rfl⟩
theorem ints_ne (a b : List Int) (va vb : Value) (w : World) (ha : IntsAt w va a) (hb : IntsAt w vb b) (h : a.length ≠ b.length) :
    Calls Tryz.prog 26 #[va, vb] w fun e w' => e = .returned (.bool false) ∧ Kept w w' := by
  obtain ⟨aa, ca, rfl, _, hla, hca⟩ := ha
  obtain ⟨ab, cb, rfl, _, hlb, hcb⟩ := hb
  have hne : ((a.length : Int) == (b.length : Int)) = false := by simpa using (by omega : (a.length : Int) ≠ b.length)
  clear h hca hcb
  go_enter Tryz.func26, Tryz.ntmps26
  go_wp2
  go_ret
  exact ⟨rfl, Kept.refl _⟩
set_option maxHeartbeats 2000000 in
theorem ints_at (a b : List Int) (va vb : Value) (w : World) (ha : IntsAt w va a) (hb : IntsAt w vb b) :
    Calls Tryz.prog 26 #[va, vb] w fun e w' => e = .returned (.bool (decide (a = b))) ∧ Kept w w' := by
  by_cases h : a.length = b.length
  case neg =>
    refine (ints_ne a b va vb w ha hb h).mono ?_
    rintro e w' ⟨rfl, h2⟩
    refine ⟨?_, h2⟩
    have : a ≠ b := fun e => h (by rw [e])
    simp [this]
  obtain ⟨aa, ca, rfl, _, hla, hca⟩ := ha
  obtain ⟨ab, cb, rfl, _, hlb, hcb⟩ := hb
  obtain ⟨n, hn⟩ : ∃ n, n = a.length := ⟨_, rfl⟩
  have hnb : n = b.length := by omega
  rw [← hnb, ← hn]
  have HA := Lib.hid hca
  have HB := Lib.hid hcb
  have Hn := Lib.hid hn
  have Hnb := Lib.hid hnb
  have hn9 : n ≤ 140737488355328 := by omega
  clear hca hcb h hn hnb hla hlb
  go_enter Tryz.func26, Tryz.ntmps26
  go_wp2
  go_loopw [5, 13] (fun _ i wr => ∃ k : Nat, k ≤ n ∧ i = .int .i64 k ∧ (∀ j, j < k → a[j]? = b[j]?) ∧ Kept w wr) (fun _ i _ => n - (intOf i).toNat)
  case atStart => exact ⟨0, Nat.zero_le _, rfl, by simp, Kept.refl _⟩
  case round =>
    obtain ⟨k, hk, rfl, hsame, hbel⟩ := hrel
    have HS := Lib.hid hsame
    clear hsame
    by_cases hlt : k < n
    · have hka : k < a.length := by have := Hn.out; omega
      have hkb : k < b.length := by have := Hnb.out; omega
      obtain ⟨ba, oa, rfl, c1⟩ := HA.out k hka
      obtain ⟨bb, ob, rfl, c2⟩ := HB.out k hkb
      have c1' := hbel.cell c1
      have c2' := hbel.cell c2
      obtain ⟨x, hx⟩ : ∃ x, x = a[k] := ⟨_, rfl⟩
      obtain ⟨y, hy⟩ : ∃ x, x = b[k] := ⟨_, rfl⟩
      rw [← hx] at c1 c1'
      rw [← hy] at c2 c2'
      have HX := Lib.hid hx
      have HY := Lib.hid hy
      have HKA := Lib.hid hka
      have HKB := Lib.hid hkb
      clear hx hy c1 c2
      by_cases hxy : x = y
      · have e1 : (x == y) = true := by simpa using hxy
        have e2 : (x != y) = false := by simpa using hxy
        have HXY := Lib.hid hxy
        clear hxy
        go_wp2
        go_quiet (fail)
        go_wp2
        go_roundw
        case rel =>
          refine ⟨k + 1, by omega, by simp, fun j hj => ?_, hbel.drewN _⟩
          by_cases e : j = k
          · subst e
            rw [List.getElem?_eq_getElem HKA.out, List.getElem?_eq_getElem HKB.out, ← HX.out, ← HY.out, HXY.out]
          · exact HS.out j (by omega)
        case measure => simp [intOf]; omega
      · have e1 : (x == y) = false := by simpa using hxy
        have e2 : (x != y) = true := by simpa using hxy
        have HXY := Lib.hid hxy
        clear hxy
        go_wp2
        go_quiet (fail)
        go_wp2
        go_ret
        refine ⟨?_, hbel.drewN _⟩
        have : a ≠ b := by
          intro e
          subst e
          exact HXY.out (HX.out.trans HY.out.symm)
        simp [this]
    · go_wp2
      go_ret
      refine ⟨?_, hbel⟩
      have hkn : k = n := by omega
      have : a = b := by
        apply List.ext_getElem?
        intro j
        by_cases hj : j < k
        · exact HS.out j hj
        · rw [List.getElem?_eq_none (by have := Hn.out; omega), List.getElem?_eq_none (by have := Hnb.out; omega)]
      simp [this]
end Go.Proofs.YteodabnjkikogaaGreat

/-
  Walks: faultlinelaw31.Example.
-/
namespace Go.Proofs.YteodabnjkikogaaGreat
open Go.RowKit

/-- The document's example. -/
def exN : List Nd := [⟨3, 0, [0, 1]⟩, ⟨3, 0, [0, 2]⟩, ⟨2, 0, [3, 4]⟩]
theorem alloc_cell {w : World} {cs : Array Value} {e : TypeId} {g : Nat} (hg : g = w.heap.size) {j : Nat} {u : Value} (h : cs[j]? = some u) : (w.alloc (.cells cs e)).cell? ⟨g, j, none⟩ = some u := by
  subst hg
  simp only [World.cell?, heap_alloc_new]
  exact h
theorem pair_at {W : World} {g : Nat} {x y : Int} (h0 : W.cell? ⟨g, 0, none⟩ = some (.int .i64 x)) (h1 : W.cell? ⟨g, 1, none⟩ = some (.int .i64 y)) : IntsAt W (.slice (some ⟨g, 0, none⟩) 2 2) [x, y] := by
  refine ⟨_, 2, rfl, ⟨Nat.le_refl _, fun h => by cases h⟩, by simp, fun i hi => ⟨g, 0, rfl, ?_⟩⟩
  match i, hi with
  | 0, _ => simpa using h0
  | 1, _ => simpa using h1
set_option maxRecDepth 100000 in
set_option maxHeartbeats 2000000 in
theorem example_ok (w : World) : Calls Tryz.prog 28 #[] w fun e w' => (∃ v, e = .returned (.agg #[.int .i64 3, v, .int .i64 5]) ∧ (∃ a n c, v = .slice a n c) ∧ NodesAt w' v exN) ∧ Kept w w' := by
  go_enter Tryz.func28, Tryz.ntmps28
  go_wp2
  generalize hW : World.alloc _ (.cells #[.int .i64 3, .int .i64 0, _, .int .i64 3, .int .i64 0, _, .int .i64 2, .int .i64 0, _] 64) = W
  have hk : Kept w W := by rw [← hW]; exact (((((Kept.refl w).alloc _).alloc _).alloc _).alloc _).alloc _
  have hs : ∀ (j : Nat) (u : Value), (#[.int .i64 3, .int .i64 0, .slice (some ⟨w.heap.size + 1, 0, none⟩) 2 2, .int .i64 3, .int .i64 0, .slice (some ⟨w.heap.size + 1 + 1, 0, none⟩) 2 2, .int .i64 2, .int .i64 0, .slice (some ⟨w.heap.size + 1 + 1 + 1, 0, none⟩) 2 2] : Array Value)[j]? = some u → W.cell? ⟨w.heap.size + 1 + 1 + 1 + 1, j, none⟩ = some u := by
    intro j u h
    rw [← hW]
    exact alloc_cell (by simp [World.size_alloc]) h
  have h1 : IntsAt W (.slice (some ⟨w.heap.size + 1, 0, none⟩) 2 2) [0, 1] := pair_at (by rw [← hW]; exact Kept.cell ((((Kept.refl _).alloc _).alloc _).alloc _) (alloc_cell (by simp [World.size_alloc]) rfl)) (by rw [← hW]; exact Kept.cell ((((Kept.refl _).alloc _).alloc _).alloc _) (alloc_cell (by simp [World.size_alloc]) rfl))
  have h2 : IntsAt W (.slice (some ⟨w.heap.size + 1 + 1, 0, none⟩) 2 2) [0, 2] := pair_at (by rw [← hW]; exact Kept.cell (((Kept.refl _).alloc _).alloc _) (alloc_cell (by simp [World.size_alloc]) rfl)) (by rw [← hW]; exact Kept.cell (((Kept.refl _).alloc _).alloc _) (alloc_cell (by simp [World.size_alloc]) rfl))
  have h3 : IntsAt W (.slice (some ⟨w.heap.size + 1 + 1 + 1, 0, none⟩) 2 2) [3, 4] := pair_at (by rw [← hW]; exact Kept.cell ((Kept.refl _).alloc _) (alloc_cell (by simp [World.size_alloc]) rfl)) (by rw [← hW]; exact Kept.cell ((Kept.refl _).alloc _) (alloc_cell (by simp [World.size_alloc]) rfl))
  have r0 : W.cell? ⟨w.heap.size, 0, none⟩ = some (.int .i64 3) := by rw [← hW]; exact Kept.cell (((((Kept.refl _).alloc _).alloc _).alloc _).alloc _) (alloc_cell rfl rfl)
  have r1 : W.cell? ⟨w.heap.size, 1, none⟩ = some (.slice (some ⟨w.heap.size + 1 + 1 + 1 + 1, 0, none⟩) 3 3) := by rw [← hW]; exact Kept.cell (((((Kept.refl _).alloc _).alloc _).alloc _).alloc _) (alloc_cell rfl rfl)
  have r2 : W.cell? ⟨w.heap.size, 2, none⟩ = some (.int .i64 5) := by rw [← hW]; exact Kept.cell (((((Kept.refl _).alloc _).alloc _).alloc _).alloc _) (alloc_cell rfl rfl)
  refine bodyPost_ret (v := .agg #[.int .i64 3, .slice (some ⟨w.heap.size + 1 + 1 + 1 + 1, 0, none⟩) 3 3, .int .i64 5]) (by simp [results, Tryz.results28, go_sem, r0, r1, r2]) rfl ?_
  refine ⟨⟨_, rfl, ⟨_, _, _, rfl⟩, _, 3, rfl, ⟨Nat.le_refl _, fun h => by cases h⟩, by decide, fun i hi => ⟨_, 0, rfl, ?_⟩⟩, hk⟩
  match i, hi with
  | 0, _ => exact ⟨_, hs 0 _ rfl, hs 1 _ rfl, hs 2 _ rfl, h1⟩
  | 1, _ => exact ⟨_, hs 3 _ rfl, hs 4 _ rfl, hs 5 _ rfl, h2⟩
  | 2, _ => exact ⟨_, hs 6 _ rfl, hs 7 _ rfl, hs 8 _ rfl, h3⟩
end Go.Proofs.YteodabnjkikogaaGreat

/-
  Plain: the example's families.
-/
namespace Go.Proofs.YteodabnjkikogaaGreat
open Go.RowKit

def exF : Fm := ⟨3, exN, 5⟩
theorem chk_ex : chkF exF = 0 := by decide
theorem syn_ex : synK 3 5 exF = true := by decide
theorem ok_ex : Ok exF 3 5 := by
  obtain ⟨V, T, h⟩ := ok_of exF chk_ex
  have h1 : (3 : Int) = (V : Int) := h.vars
  have h2 : (5 : Int) = (T : Int) := h.top
  obtain rfl : V = 3 := by omega
  obtain rfl : T = 5 := by omega
  exact h
theorem pcs : pc 0 = 0 ∧ pc 1 = 1 ∧ pc 2 = 1 ∧ pc 3 = 2 ∧ pc 4 = 1 ∧ pc 5 = 2 ∧ pc 6 = 2 ∧ pc 7 = 3 := by
  have h0 : pc 0 = 0 := by unfold pc; simp
  have h1 : pc 1 = 1 := by unfold pc; simp [h0]
  have h2 : pc 2 = 1 := by unfold pc; simp [h1]
  have h3 : pc 3 = 2 := by unfold pc; simp [h1]
  have h4 : pc 4 = 1 := by unfold pc; simp [h2]
  have h5 : pc 5 = 2 := by unfold pc; simp [h2]
  have h6 : pc 6 = 2 := by unfold pc; simp [h3]
  have h7 : pc 7 = 3 := by unfold pc; simp [h3]
  exact ⟨h0, h1, h2, h3, h4, h5, h6, h7⟩
end Go.Proofs.YteodabnjkikogaaGreat

/-
  Walks: faultlinelaw32.awake.
-/
namespace Go.Proofs.YteodabnjkikogaaGreat
open Go.RowKit

theorem ints_true {l : List Int} (va vb : Value) (w : World) (ha : IntsAt w va l) (hb : IntsAt w vb l) : Calls Tryz.prog 26 #[va, vb] w fun e w' => e = .returned (.bool true) ∧ Kept w w' := by
  have h := ints_at l l va vb w ha hb
  rw [decide_eq_true rfl] at h
  exact h
end Go.Proofs.YteodabnjkikogaaGreat

/-
  The frame of the laws over a formula: an argument read as data is a formula in memory; the law's answer makes its row.
-/
namespace Go.Proofs.YteodabnjkikogaaGreat
open Go.RowKit Go.ChangeShapes Go.WideShapes Go.ChangeAt Go.Joins Go.Deep

theorem ownK : ownKnob Tryz.prog.godebug = none := by kernel_rfl
theorem laidOutK : laidOutB Tryz.prog = true := by kernel_rfl
theorem cells_int : Tryz.prog.cellsOf 3 = 1 := by kernel_rfl
theorem bytes_int : Tryz.prog.bytesOf 3 = 8 := by kernel_rfl

theorem weightsAll_mem {H : Type} {P : Program} {e : TypeId} : ∀ {l : List (DataW H)} {d : DataW H}, d ∈ l → ∀ n ∈ d.weights P e, n ∈ DataW.weightsAll P e l
  | d' :: r, d, hd, n, hn => by
    simp only [DataW.weightsAll, List.mem_append]
    rcases List.mem_cons.1 hd with rfl | h
    · exact .inl hn
    · exact .inr (weightsAll_mem h n hn)

theorem addP (b o j : Nat) : (⟨b, o, none⟩ : Addr).add j = ⟨b, o + j, none⟩ := by unfold Addr.add; split <;> simp_all
section
variable {H : Type} {enc : TypeId × Value → H} {W : World} {base : Nat}
/-- Ints of a slice, read. -/
theorem ints_open {fuel : Nat} {cs : List Value} {x : DataW H × List MemPlace} (hb : ∀ n ∈ x.1.weights Tryz.prog 32, n ≤ reachBytes)
    (h : DataW.trod enc Tryz.prog W base (fun _ => true) true fuel 32 cs = some x) : ∃ u xs, cs = [u] ∧ IntsAt W u xs ∧ ∀ z ∈ xs, -9223372036854775808 ≤ z ∧ z ≤ 9223372036854775807 := by
  rcases open_ints Tryz.underlying32 Tryz.underlying3 cells_int h with ⟨rfl, rfl⟩ | ⟨a, len, cap, zs, rfl, _, hl, hm, hz, rfl, hcell, hwz⟩
  · exact ⟨_, [], rfl, IntsAt.nil _, by simp⟩
  · simp only [if_true] at hz
    have hbb := hb ((zs.take len).length * 8 + (zs.drop len).length * 8) (by
      simp only [DataW.weights, Tryz.underlying32, bytes_int, List.mem_cons]
      exact .inl (by simp [lits]; omega))
    simp [reachBytes] at hbb
    refine ⟨_, zs.take len, rfl, ⟨some a, cap, by simp; omega, ⟨by simp; omega, fun h => by cases h⟩, by simp; omega, fun i hi => ?_⟩, fun z hz => bounds_i64 (hwz z (List.mem_of_mem_take hz))⟩
    simp only [List.length_take] at hi
    have hc := hcell i (by omega)
    obtain ⟨b, o, spot⟩ := a
    have hspot : spot = none := World.cell?_spot (hcell 0 (by omega))
    subst hspot
    refine ⟨b, o, rfl, ?_⟩
    have e : (zs.take len)[i]'(by simp; omega) = zs.getD i 0 := by simp [List.getD_eq_getElem?_getD, show i < zs.length by omega]
    rw [e, ← hc]
    congr 1
    by_cases h0 : i = 0
    · subst h0; rfl
    · simp [Addr.add, h0]
instance : Inhabited Nd := ⟨⟨0, 0, []⟩⟩
/-- All numbers of a node are ints of 64 bits. -/
def NdOk (x : Nd) : Prop := (-9223372036854775808 ≤ x.kind ∧ x.kind ≤ 9223372036854775807) ∧ (-9223372036854775808 ≤ x.k ∧ x.k ≤ 9223372036854775807) ∧ ∀ z ∈ x.args, -9223372036854775808 ≤ z ∧ z ≤ 9223372036854775807
def FmOk (f : Fm) : Prop := (-9223372036854775808 ≤ f.vars ∧ f.vars ≤ 9223372036854775807) ∧ (-9223372036854775808 ≤ f.top ∧ f.top ≤ 9223372036854775807) ∧ ∀ x ∈ f.nodes, NdOk x
end
end Go.Proofs.YteodabnjkikogaaGreat

/-
  What Families and Cuts answer, by cases; the formula in its block.
-/
namespace Go.Proofs.YteodabnjkikogaaGreat
open Go.RowKit

theorem fm_cells {w w1 : World} {x y z : Value} {e : TypeId} (hk : Kept (w.alloc (.cells #[x, y, z] e)) w1) : w1.cell? ⟨w.heap.size, 0, none⟩ = some x ∧ w1.cell? ⟨w.heap.size, 1, none⟩ = some y ∧ w1.cell? ⟨w.heap.size, 2, none⟩ = some z :=
  ⟨hk.cell (p := ⟨w.heap.size, 0, none⟩) (by simp), hk.cell (p := ⟨w.heap.size, 1, none⟩) (by simp), hk.cell (p := ⟨w.heap.size, 2, none⟩) (by simp)⟩
end Go.Proofs.YteodabnjkikogaaGreat

/-
  Walks: topdown.run.
-/
namespace Go.Proofs.YteodabnjkikogaaGreat
open Go.RowKit

theorem node_read {w : World} {v : Value} {nodes : List Nd} (h : NodesAt w v nodes) (i : Nat) (hi : i < nodes.length) :
    ∃ b o n c ua un uc, v = .slice (some ⟨b, o, none⟩) n c ∧ n = nodes.length ∧ ∀ W, Kept w W → W.rangeAt b (o + i * 3) [.int .i64 nodes[i].kind, .int .i64 nodes[i].k, .slice ua un uc] ∧ IntsAt W (.slice ua un uc) nodes[i].args := by
  obtain ⟨a, c, h1, _, _, h4⟩ := h
  obtain ⟨b, o, h5, u, e0, e1, e2, e3⟩ := h4 i hi
  obtain ⟨ua, un, uc, rfl⟩ := e3.shape
  exact ⟨b, o, _, c, ua, un, uc, by rw [h1, h5], rfl, fun W hk => ⟨node_range (hk.cell e0) (hk.cell e1) (hk.cell e2), e3.kept hk⟩⟩
/-- What run answers. -/
def RunRes (w' : World) (e : Ending) (r : Option (List Nat × List Nat)) : Prop :=
  match r with
  | some p => ∃ v1 v2 L, e = .returned (.tuple #[v1, v2, .nilIface]) ∧ OwnRws w' 0 v1 L ∧ L.Perm p.1 ∧ OwnInts w' 0 v2 (ofN p.2)
  | none => e = .returned (.tuple #[.slice none 0 0, .slice none 0 0, errV 4])
end Go.Proofs.YteodabnjkikogaaGreat

/-
  Walks: topdown.run on well-formed formulas.
-/
namespace Go.Proofs.YteodabnjkikogaaGreat
open Go.RowKit

theorem OwnRws.zero {w : World} {B : Nat} {v : Value} {L : List Nat} (h : OwnRws w B v L) : OwnRws w 0 v L := h.mono (Nat.zero_le _)
theorem OwnRws.grown {w w' : World} {B : Nat} {ob : Option Nat} {v : Value} {L : List Nat} (h : OwnRws w B v L) (hg : w.grownBy w' ob) (hne : ∀ g, v.ownBlock = some g → some g ≠ ob) : OwnRws w' B v L := by
  obtain ⟨⟨h1, h2⟩, h3⟩ := h
  refine ⟨⟨h1, h2.imp id ?_⟩, h3⟩
  rintro ⟨b, cap, cur, rfl, h5, h6, h7⟩
  refine ⟨b, cap, cur, rfl, h5, ?_, h7⟩
  have hlt : b < w.heap.size := by
    by_cases h : b < w.heap.size
    · exact h
    · rw [Array.getElem?_eq_none (Nat.le_of_not_lt h)] at h6; cases h6
  exact (hg.block b hlt (hne b (by simp [Value.ownBlock]))).trans h6
theorem own_one (w : World) (B c : Nat) (hB : B ≤ w.heap.size) (hc : RowLt 152 c) : OwnRws (w.alloc (.cells #[.int .i64 (evW c), .int .u64 (loW c), .int .u64 (hiW c)] 88)) B (.slice (some ⟨w.heap.size, 0, none⟩) 1 1) [c] :=
  ⟨⟨by simp [rcells], .inr ⟨w.heap.size, 1, _, rfl, hB, heap_alloc_new w _, Nat.le_refl _, by unfold maxLen; omega, by simp, by simp [rcells]⟩⟩, by simp, by simpa using hc⟩
theorem RwsAt.len {w : World} {v : Value} {L : List Nat} (h : RwsAt w v L) : L.length ≤ 10000 := by obtain ⟨_, _, _, _, h, _⟩ := h; exact h
theorem RwsAt.lt {w : World} {v : Value} {L : List Nat} (h : RwsAt w v L) : ∀ c ∈ L, RowLt 152 c := by obtain ⟨_, _, _, _, _, h, _⟩ := h; exact h
theorem RwsAt.get {w : World} {a : Option Addr} {n c : Nat} {L : List Nat} (h : RwsAt w (.slice a n c) L) (i : Nat) (hi : i < L.length) : ∃ b o, a = some ⟨b, o, none⟩ ∧ w.rangeAt b (o + i * 3) (rcells L[i]) := by
  obtain ⟨a', c', h1, _, _, _, h5⟩ := h
  injection h1 with h1 h2 h3
  subst h1
  exact h5 i hi
end Go.Proofs.YteodabnjkikogaaGreat

/-
  Walks: faultlineref05.Valid, Cut, Count, Compare.
-/
namespace Go.Proofs.YteodabnjkikogaaGreat
open Go.RowKit

theorem and_pred (n : Nat) : 0 < n → n &&& (n - 1) < n ∧ pc n = pc (n &&& (n - 1)) + 1 := by
  induction n using Nat.strongRecOn with
  | ind n ih =>
    intro h0
    have bits : ∀ a b : Nat, a = b ↔ a % 2 = b % 2 ∧ a / 2 = b / 2 := fun a b => by omega
    by_cases h : n % 2 = 1
    · have e : n &&& (n - 1) = n - 1 := by
        rw [bits]
        have e1 : (n &&& (n - 1)) % 2 = 0 := by
          rw [show (2 : Nat) = 2 ^ 1 from rfl, Nat.and_mod_two_pow, show (n - 1) % 2 ^ 1 = 0 by omega]; simp
        have e2 : (n &&& (n - 1)) / 2 = n / 2 := by
          rw [show (2 : Nat) = 2 ^ 1 from rfl, Nat.and_div_two_pow, show (n - 1) / 2 ^ 1 = n / 2 ^ 1 by omega, Nat.and_self]
        omega
      rw [e]
      refine ⟨by omega, ?_⟩
      rw [pc_one n, pc_one (n - 1), show (n - 1) / 2 = n / 2 by omega]
      omega
    · have h2 := ih (n / 2) (by omega) (by omega)
      have e1 : (n &&& (n - 1)) % 2 = 0 := by
        rw [show (2 : Nat) = 2 ^ 1 from rfl, Nat.and_mod_two_pow, show n % 2 ^ 1 = 0 by omega]; simp
      have e2 : (n &&& (n - 1)) / 2 = n / 2 &&& (n / 2 - 1) := by
        rw [show (2 : Nat) = 2 ^ 1 from rfl, Nat.and_div_two_pow, show (n - 1) / 2 ^ 1 = n / 2 ^ 1 - 1 by omega]
      refine ⟨by omega, ?_⟩
      rw [pc_one n, pc_one (n &&& (n - 1)), e1, e2]
      omega
theorem rcut_any {n : Nat} (h : Mk n) (w : World) : Calls Tryz.prog 183 #[.int .i64 n] w fun e w' => e = .returned (.int .i64 n) ∧ w = w' := by
  have hc := cut_mk h
  go_enter Tryz.func183, Tryz.ntmps183
  go_wp2
  go_ret
  exact ⟨rfl, rfl⟩
theorem rvalid_any (s : Int) (w : World) : Calls Tryz.prog 150 #[.int .i64 s] w fun e w' => e = .returned (.bool (decide (0 ≤ s ∧ s ≤ 16777215))) ∧ w = w' := by
  by_cases h : 0 ≤ s
  · by_cases h2 : s < 16777216
    all_goals
      go_enter Tryz.func150, Tryz.ntmps150
      go_wp2
      go_ret
      exact ⟨by congr 2; simp; omega, rfl⟩
  · go_enter Tryz.func150, Tryz.ntmps150
    go_wp2
    go_ret
    exact ⟨by congr 2; simp; omega, rfl⟩
theorem rcount_any {n : Nat} (h : Mk n) (w : World) : Calls Tryz.prog 139 #[.int .i64 n] w fun e w' => e = .returned (.int .i64 (pc n)) ∧ w = w' := by
  obtain ⟨r, hr⟩ : ∃ r, r = pc n := ⟨_, rfl⟩
  rw [← hr]
  have HR := Lib.hid hr
  have h' := h
  clear hr
  go_enter Tryz.func139, Tryz.ntmps139
  go_wp2_with (go_at_call 183; refine (rcut_any h' _).mono ?_; rintro e w' ⟨rfl, rfl⟩)
  go_loop [0, 3] (fun s k => ∃ m q : Nat, s = .int .i64 m ∧ k = .int .i64 q ∧ m < 16777216 ∧ q ≤ 16777216 - m ∧ Hid (pc m + q = r)) (fun s _ => (intOf s).toNat)
  case atStart => exact ⟨n, 0, rfl, rfl, h, by omega, Lib.hid (by rw [HR.out]; rfl)⟩
  case round =>
    obtain ⟨m, q, rfl, rfl, hm, hq, HI⟩ := hrel
    by_cases h0 : 0 < m
    · have hp := and_pred m h0
      have e1 : bits .and .i64 (m : Int) ((m : Int) - 1) = ((m &&& (m - 1) : Nat) : Int) := by
        rw [show (m : Int) - 1 = ((m - 1 : Nat) : Int) by omega]
        exact and_i64 _ _ (by omega) (by omega)
      have hne : ((m : Int) == 0) = false := by simp; omega
      have hne2 : ((m : Int) != 0) = true := by simp; omega
      have HP := Lib.hid hp
      clear hp
      go_wp2
      go_round
      case rel => exact ⟨m &&& (m - 1), q + 1, rfl, by go_num, by have := HP.out; omega, by have := HP.out; omega, Lib.hid (by have := HP.out; have := HI.out; omega)⟩
      case measure => have := HP.out; simp [intOf]; omega
    · obtain rfl : m = 0 := by omega
      go_wp2
      go_ret
      have hqr : q = r := by have := HI.out; rw [pc_zero] at this; omega
      exact ⟨by rw [hqr]; rfl, rfl⟩
def cmpR (a b : Nat) : Int := if a = b then 0 else if ltK a b then -1 else 1
set_option maxHeartbeats 1000000 in
theorem rcompare_any {a b : Nat} (ha : Mk a) (hb : Mk b) (w : World) : Calls Tryz.prog 142 #[.int .i64 a, .int .i64 b] w fun e w' => e = .returned (.int .i64 (cmpR a b)) ∧ w = w' := by
  obtain ⟨r, hr⟩ : ∃ r, r = cmpR a b := ⟨_, rfl⟩
  rw [← hr]
  obtain ⟨x, hx⟩ : ∃ x, x = pc a := ⟨_, rfl⟩
  obtain ⟨y, hy⟩ : ∃ x, x = pc b := ⟨_, rfl⟩
  have HR := Lib.hid hr
  have HA : Hid (∀ W, Calls Tryz.prog 139 #[.int .i64 a] W fun e w' => e = .returned (.int .i64 x) ∧ W = w') := Lib.hid (hx ▸ fun W => rcount_any ha W)
  have HB : Hid (∀ W, Calls Tryz.prog 139 #[.int .i64 b] W fun e w' => e = .returned (.int .i64 y) ∧ W = w') := Lib.hid (hy ▸ fun W => rcount_any hb W)
  have CA : Hid (∀ W, Calls Tryz.prog 183 #[.int .i64 a] W fun e w' => e = .returned (.int .i64 a) ∧ W = w') := Lib.hid fun W => rcut_any ha W
  have CB : Hid (∀ W, Calls Tryz.prog 183 #[.int .i64 b] W fun e w' => e = .returned (.int .i64 b) ∧ W = w') := Lib.hid fun W => rcut_any hb W
  have HX := Lib.hid hx
  have HY := Lib.hid hy
  clear hr hx hy ha hb
  by_cases e : a = b
  · have h0 : r = 0 := by rw [HR.out, cmpR, if_pos e]
    subst h0
    have ee : ((a : Int) == (b : Int)) = true := by simp; omega
    clear HX HY
    clear e
    go_enter Tryz.func142, Tryz.ntmps142
    go_wp2_with (first
      | (go_at_call_of 183 (Value.int .i64 (a : Int)); refine (CA.out _).mono ?_; rintro e w' ⟨rfl, rfl⟩)
      | (go_at_call_of 183 (Value.int .i64 (b : Int)); refine (CB.out _).mono ?_; rintro e w' ⟨rfl, rfl⟩))
    go_ret
    exact ⟨rfl, rfl⟩
  · have ee : ((a : Int) == (b : Int)) = false := by simp; omega
    have HE := Lib.hid e
    clear e
    by_cases h1 : x < y
    · have h0 : r = -1 := by rw [HR.out, cmpR, if_neg HE.out, if_pos (.inl (by rw [← HX.out, ← HY.out]; exact h1))]
      subst h0
      have h1' : (x : Int) < (y : Int) := by omega
      go_enter Tryz.func142, Tryz.ntmps142
      go_wp2_with (first
        | (go_at_call_of 183 (Value.int .i64 (a : Int)); refine (CA.out _).mono ?_; rintro e w' ⟨rfl, rfl⟩)
        | (go_at_call_of 183 (Value.int .i64 (b : Int)); refine (CB.out _).mono ?_; rintro e w' ⟨rfl, rfl⟩)
        | (go_at_call_of 139 (Value.int .i64 (a : Int)); refine (HA.out _).mono ?_; rintro e w' ⟨rfl, rfl⟩)
        | (go_at_call_of 139 (Value.int .i64 (b : Int)); refine (HB.out _).mono ?_; rintro e w' ⟨rfl, rfl⟩))
      go_ret
      exact ⟨rfl, rfl⟩
    · have h1' : ¬ (x : Int) < (y : Int) := by omega
      by_cases h2 : x = y
      · have h2' : ((x : Int) == (y : Int)) = true := by simp; omega
        by_cases h3 : a < b
        · have h0 : r = -1 := by rw [HR.out, cmpR, if_neg HE.out, if_pos (.inr ⟨by rw [← HX.out, ← HY.out]; exact h2, h3⟩)]
          subst h0
          have h3' : (a : Int) < (b : Int) := by omega
          clear HX HY h1
          clear h2
          go_enter Tryz.func142, Tryz.ntmps142
          go_wp2_with (first
            | (go_at_call_of 183 (Value.int .i64 (a : Int)); refine (CA.out _).mono ?_; rintro e w' ⟨rfl, rfl⟩)
            | (go_at_call_of 183 (Value.int .i64 (b : Int)); refine (CB.out _).mono ?_; rintro e w' ⟨rfl, rfl⟩)
            | (go_at_call_of 139 (Value.int .i64 (a : Int)); refine (HA.out _).mono ?_; rintro e w' ⟨rfl, rfl⟩)
            | (go_at_call_of 139 (Value.int .i64 (b : Int)); refine (HB.out _).mono ?_; rintro e w' ⟨rfl, rfl⟩))
          go_ret
          exact ⟨rfl, rfl⟩
        · have h0 : r = 1 := by
            rw [HR.out, cmpR, if_neg HE.out, if_neg]
            rintro (h | h)
            · rw [← HX.out, ← HY.out] at h; exact h1 h
            · exact h3 h.2
          subst h0
          have h3' : ¬ (a : Int) < (b : Int) := by omega
          clear HX HY h1
          clear h2
          go_enter Tryz.func142, Tryz.ntmps142
          go_wp2_with (first
            | (go_at_call_of 183 (Value.int .i64 (a : Int)); refine (CA.out _).mono ?_; rintro e w' ⟨rfl, rfl⟩)
            | (go_at_call_of 183 (Value.int .i64 (b : Int)); refine (CB.out _).mono ?_; rintro e w' ⟨rfl, rfl⟩)
            | (go_at_call_of 139 (Value.int .i64 (a : Int)); refine (HA.out _).mono ?_; rintro e w' ⟨rfl, rfl⟩)
            | (go_at_call_of 139 (Value.int .i64 (b : Int)); refine (HB.out _).mono ?_; rintro e w' ⟨rfl, rfl⟩))
          go_ret
          exact ⟨rfl, rfl⟩
      · have h2' : ((x : Int) == (y : Int)) = false := by simp; omega
        have h0 : r = 1 := by
          rw [HR.out, cmpR, if_neg HE.out, if_neg]
          rintro (h | h)
          · rw [← HX.out, ← HY.out] at h; exact h1 h
          · rw [← HX.out, ← HY.out] at h; exact h2 h.1
        subst h0
        clear HX HY h1
        clear h2
        go_enter Tryz.func142, Tryz.ntmps142
        go_wp2_with (first
          | (go_at_call_of 183 (Value.int .i64 (a : Int)); refine (CA.out _).mono ?_; rintro e w' ⟨rfl, rfl⟩)
          | (go_at_call_of 183 (Value.int .i64 (b : Int)); refine (CB.out _).mono ?_; rintro e w' ⟨rfl, rfl⟩)
          | (go_at_call_of 139 (Value.int .i64 (a : Int)); refine (HA.out _).mono ?_; rintro e w' ⟨rfl, rfl⟩)
          | (go_at_call_of 139 (Value.int .i64 (b : Int)); refine (HB.out _).mono ?_; rintro e w' ⟨rfl, rfl⟩))
        go_ret
        exact ⟨rfl, rfl⟩
end Go.Proofs.YteodabnjkikogaaGreat

/-
  Walks: faultlineref05.Sort.
-/
namespace Go.Proofs.YteodabnjkikogaaGreat
open Go.RowKit

theorem IntsAt.take {w : World} {a : Option Addr} {c : Nat} {xs : List Int} (h : IntsAt w (.slice a xs.length c) xs) (k : Nat) (hk : k ≤ xs.length) : IntsAt w (.slice a k c) (xs.take k) := by
  obtain ⟨a', c', h1, ⟨h0, hn⟩, h2, h3⟩ := h
  cases h1
  refine ⟨a, c, by simp [Nat.min_eq_left hk], ⟨by simp; omega, hn⟩, by simp; omega, fun i hi => ?_⟩
  simp only [List.length_take] at hi
  obtain ⟨b, o, h4, h5⟩ := h3 i (by omega)
  exact ⟨b, o, h4, by simpa using h5⟩
theorem IntsAt.drop {w : World} {b o c : Nat} {xs : List Int} (h : IntsAt w (.slice (some ⟨b, o, none⟩) xs.length c) xs) (k : Nat) (hk : k ≤ xs.length) : IntsAt w (.slice (some ⟨b, o + k, none⟩) (xs.length - k) (c - k)) (xs.drop k) := by
  obtain ⟨a', c', h1, ⟨h0, hn⟩, h2, h3⟩ := h
  cases h1
  refine ⟨some ⟨b, o + k, none⟩, c - k, by simp, ⟨by simp; omega, fun h => by cases h⟩, by simp; omega, fun i hi => ?_⟩
  simp only [List.length_drop] at hi
  obtain ⟨b', o', h4, h5⟩ := h3 (k + i) (by omega)
  cases h4
  exact ⟨b, o + k, rfl, by simpa [Nat.add_assoc] using h5⟩
theorem SetsAt.take {w : World} {a : Option Addr} {c : Nat} {ns : List Nat} (h : SetsAt w (.slice a ns.length c) ns) (k : Nat) (hk : k ≤ ns.length) : SetsAt w (.slice a k c) (ns.take k) := by
  refine ⟨?_, fun n hn => h.2 n (List.mem_of_mem_take hn)⟩
  have := IntsAt.take (xs := ofN ns) (by simpa using h.1) k (by simpa using hk)
  simpa [ofN, List.map_take] using this
theorem SetsAt.drop {w : World} {b o c : Nat} {ns : List Nat} (h : SetsAt w (.slice (some ⟨b, o, none⟩) ns.length c) ns) (k : Nat) (hk : k ≤ ns.length) : SetsAt w (.slice (some ⟨b, o + k, none⟩) (ns.length - k) (c - k)) (ns.drop k) := by
  refine ⟨?_, fun n hn => h.2 n (List.mem_of_mem_drop hn)⟩
  have := IntsAt.drop (xs := ofN ns) (by simpa using h.1) k (by simpa using hk)
  simpa [ofN, List.map_drop] using this
theorem SetsAt.shape {w : World} {v : Value} {ns : List Nat} (h : SetsAt w v ns) : ∃ a c, v = .slice a ns.length c ∧ ns.length ≤ c ∧ (ns ≠ [] → ∃ b o, a = some ⟨b, o, none⟩) := by
  obtain ⟨⟨a, c, h1, ⟨h0, _⟩, _, h3⟩, _⟩ := h
  refine ⟨a, c, by simpa using h1, by simpa using h0, fun hne => ?_⟩
  have : 0 < (ofN ns).length := by simpa using List.length_pos_iff.2 hne
  obtain ⟨b, o, h4, _⟩ := h3 0 this
  exact ⟨b, o, h4⟩

def lenV : Value → Nat | .slice _ n _ => n | _ => 0
/-- What a merge has taken, and what is left. -/
structure MInv (ns zs xs ys : List Nat) : Prop where
  left : (zs ++ xs).Pairwise ltK
  right : (zs ++ ys).Pairwise ltK
  mem : ∀ z, z ∈ ns ↔ z ∈ zs ∨ z ∈ xs ∨ z ∈ ys
  len : zs.length + xs.length + ys.length ≤ ns.length
theorem MInv.start (ns : List Nat) (h : Nat) : MInv ns [] (sortK (ns.take h)) (sortK (ns.drop h)) := by
  refine ⟨by simpa using pair_sortK _, by simpa using pair_sortK _, fun z => ?_, ?_⟩
  · rw [mem_sortK, mem_sortK]
    have := List.mem_append (a := z) (s := ns.take h) (t := ns.drop h)
    rw [List.take_append_drop] at this
    simpa using this
  · have h1 := len_sortK (ns.take h)
    have h2 := len_sortK (ns.drop h)
    simp at h1 h2 ⊢
    omega
theorem MInv.eq {ns zs xs ys : List Nat} {x : Nat} (h : MInv ns zs (x :: xs) (x :: ys)) : MInv ns (zs ++ [x]) xs ys :=
  ⟨by simpa using h.left, by simpa using h.right, fun z => by rw [h.mem]; simp only [List.mem_append, List.mem_cons, List.not_mem_nil]; grind, by have := h.len; simp at this ⊢; omega⟩
theorem MInv.lt {ns zs xs ys : List Nat} {x y : Nat} (h : MInv ns zs (x :: xs) (y :: ys)) (hl : ltK x y) : MInv ns (zs ++ [x]) xs (y :: ys) := by
  refine ⟨by simpa using h.left, ?_, fun z => by rw [h.mem]; simp only [List.mem_append, List.mem_cons, List.not_mem_nil]; grind, by have := h.len; simp at this ⊢; omega⟩
  have h1 := List.pairwise_append.1 h.left
  have h2 := List.pairwise_append.1 h.right
  rw [List.pairwise_append]
  refine ⟨?_, h2.2.1, ?_⟩
  · rw [List.pairwise_append]; exact ⟨h1.1, by simp, fun a ha b hb => by simp at hb; subst hb; exact h1.2.2 a ha b (List.mem_cons_self ..)⟩
  · intro a ha b hb
    rcases List.mem_append.1 ha with ha | ha
    · exact h2.2.2 a ha b hb
    · simp at ha; subst ha
      rcases List.mem_cons.1 hb with e | e
      · rw [e]; exact hl
      · exact ltK_tr _ _ _ hl ((List.pairwise_cons.1 h2.2.1).1 b e)
theorem MInv.symm {ns zs xs ys : List Nat} (h : MInv ns zs xs ys) : MInv ns zs ys xs :=
  ⟨h.right, h.left, fun z => by rw [h.mem]; constructor <;> (intro h; rcases h with h | h | h <;> simp_all), by have := h.len; omega⟩
theorem MInv.gt {ns zs xs ys : List Nat} {x y : Nat} (h : MInv ns zs (x :: xs) (y :: ys)) (hl : ltK y x) : MInv ns (zs ++ [y]) (x :: xs) ys := (h.symm.lt hl).symm
theorem MInv.doneL {ns zs ys : List Nat} (h : MInv ns zs [] ys) : zs ++ [] ++ ys = sortK ns := by
  rw [List.append_nil]
  exact sortK_unique ns _ h.right fun x => by rw [h.mem]; simp
theorem MInv.doneR {ns zs xs : List Nat} (h : MInv ns zs xs []) : zs ++ xs ++ [] = sortK ns := by
  rw [List.append_nil]
  exact sortK_unique ns _ h.left fun x => by rw [h.mem]; simp
theorem MInv.masks {ns zs xs ys : List Nat} (h : MInv ns zs xs ys) (hm : ∀ n ∈ ns, Mk n) : (∀ n ∈ zs, Mk n) ∧ (∀ n ∈ xs, Mk n) ∧ ∀ n ∈ ys, Mk n :=
  ⟨fun n hn => hm n ((h.mem n).2 (.inl hn)), fun n hn => hm n ((h.mem n).2 (.inr (.inl hn))), fun n hn => hm n ((h.mem n).2 (.inr (.inr hn)))⟩
/-- l[1:] of a list with a head. -/
abbrev restV (b o n c : Nat) : Value := .slice (if c = 1 then some ⟨b, o, none⟩ else some ⟨b, o + 1, none⟩) n (c - 1)
theorem SetsAt.rest {w : World} {b o c : Nat} {x : Nat} {xs : List Nat} (h : SetsAt w (.slice (some ⟨b, o, none⟩) (xs.length + 1) c) (x :: xs)) : SetsAt w (restV b o xs.length c) xs := by
  have h1 := SetsAt.drop (ns := x :: xs) h 1 (by simp)
  unfold restV
  obtain ⟨a', c', h2, h3, _⟩ := h.shape
  cases h2
  by_cases hc : c = 1
  · rw [if_pos hc]
    have : xs = [] := List.eq_nil_of_length_eq_zero (by simp at h3; omega)
    subst this
    subst hc
    exact ⟨⟨_, 0, rfl, ⟨by simp, fun h => by cases h⟩, by simp, fun i hi => by simp at hi⟩, by simp⟩
  · rw [if_neg hc]
    simpa using h1
theorem SetsAt.head {w : World} {b o c m : Nat} {x : Nat} {xs : List Nat} (h : SetsAt w (.slice (some ⟨b, o, none⟩) m c) (x :: xs)) : w.cell? ⟨b, o, none⟩ = some (.int .i64 x) := by
  obtain ⟨⟨a', c', h2, _, _, h3⟩, _⟩ := h
  obtain ⟨b', o', h4, h5⟩ := h3 0 (by simp)
  cases h2
  cases h4
  simpa using h5
theorem sorted_small {ns : List Nat} (h : ns.length < 2) : sortK ns = ns := by
  match ns, h with
  | [], _ => rfl
  | [x], _ => rfl
theorem own_empty (w : World) (B : Nat) (hB : B ≤ w.heap.size) : OwnInts (w.alloc (.cells #[] 3)) B (.slice (some ⟨w.heap.size, 0, none⟩) 0 0) [] :=
  ⟨⟨by simp, .inr ⟨w.heap.size, 0, #[], rfl, hB, heap_alloc_new w _, Nat.le_refl _, by unfold maxLen; omega, by simp, by simp⟩⟩, by simp⟩
set_option maxRecDepth 100000 in
set_option maxHeartbeats 4000000 in
theorem rsort_any : ∀ (k : Nat) (ns : List Nat) (v : Value) (w : World), ns.length ≤ k → SetsAt w v ns → ns.length ≤ 8796093022208 →
    Calls Tryz.prog 82 #[v] w fun e w' => (∃ v', e = .returned v' ∧ OwnSets w' 0 v' (sortK ns)) ∧ Kept w w' := by
  intro k
  induction k using Nat.strongRecOn with
  | ind k ih =>
    intro ns v w hk hv hl
    obtain ⟨a, c, rfl, hc, hne⟩ := hv.shape
    by_cases h2 : ns.length < 2
    · have h2' : (ns.length : Int) < 2 := by omega
      have HV := Lib.hid hv
      have HS := Lib.hid (sorted_small h2)
      clear ih hne hv h2
      go_enter Tryz.func82, Tryz.ntmps82
      go_wp2_with (at_builtin; refine app_ints rfl _ _ rfl w.heap.size _ [] rfl (own_empty w _ (Nat.le_refl _)) _ (ofN ns) rfl (HV.out.1.kept ((Kept.refl _).alloc _)) (by simp; omega) (by simp) ?_; intro v7 w7 hown7 _ hb7; have O7 := Lib.hid hown7; have HB7 := Lib.hid hb7; clear hown7 hb7)
      go_ret
      exact ⟨⟨_, rfl, ⟨by rw [HS.out]; simpa using O7.out.mono (Nat.zero_le _), by rw [HS.out]; exact HV.out.2⟩⟩, ((Kept.refl _).alloc _).app HB7.out⟩
    · obtain ⟨b, o, rfl⟩ := hne (fun e => by subst e; simp at h2)
      obtain ⟨h, hh⟩ : ∃ h, h = ns.length / 2 := ⟨_, rfl⟩
      have hT := hv.take h (by omega)
      have hD := hv.drop h (by omega)
      obtain ⟨n, hn⟩ : ∃ n, n = ns.length := ⟨_, rfl⟩
      rw [← hn] at hk hl hc h2 hD hh ⊢
      have HIH := Lib.hid ih
      have HT := Lib.hid hT
      have HD := Lib.hid hD
      have HN := Lib.hid hn
      have hv2 := Lib.hid hv.2
      have HL : Hid (∀ W, Kept w W → Calls Tryz.prog 82 #[.slice (some ⟨b, o, none⟩) h c] W fun e w' => (∃ v', e = .returned v' ∧ OwnSets w' 0 v' (sortK (ns.take h))) ∧ Kept W w') :=
        Lib.hid fun W hW => HIH.out h (by omega) (ns.take h) _ W (by simp; omega) (HT.out.kept hW) (by simp; omega)
      have HR : Hid (∀ W, Kept w W → Calls Tryz.prog 82 #[.slice (some ⟨b, o + h, none⟩) (n - h) (c - h)] W fun e w' => (∃ v', e = .returned v' ∧ OwnSets w' 0 v' (sortK (ns.drop h))) ∧ Kept W w') :=
        Lib.hid fun W hW => HIH.out (n - h) (by omega) (ns.drop h) _ W (by have := HN.out; simp; omega) (HD.out.kept hW) (by have := HN.out; simp; omega)
      have hq1 : Int.tdiv (n : Int) 2 = (h : Int) := by rw [Int.tdiv_eq_ediv_of_nonneg (by omega)]; omega
      have hq2 : (n : Int) / 2 = (h : Int) := by omega
      have hq3 : IntKind.i64.wrap (h : Int) = (h : Int) := by rw [IntKind.wrap_i64]; omega
      have hb1 : (0 : Int) ≤ (h : Int) := by omega
      have hb2 : (h : Int) ≤ (n : Int) := by omega
      have hb3 : (h : Int) ≤ (c : Int) := by omega
      have hb4 : (n : Int) ≤ (c : Int) := by omega
      have h2' : ¬ (n : Int) < 2 := by omega
      have hcn : h ≠ c := by omega
      clear hT hD hn hv ih hne hh h2
      go_enter Tryz.func82, Tryz.ntmps82
      go_upto_region 3 with fail
      go_cut [3, 4] (fun va vb wx => SetsAt wx va (sortK (ns.take h)) ∧ SetsAt wx vb (sortK (ns.drop h)) ∧ Kept w wx)
      case first =>
        go_region_held3 (fun _ => True) (trivial)
          (first
            | (go_at_call_of 82 (Value.slice (some ⟨b, o, none⟩) h c); refine (HL.out _ (by first | exact (Kept.refl _).drew | exact (Kept.refl _).drew.trans hk6)).mono ?_; rintro e w5 ⟨⟨va, rfl, hoa⟩, hk5⟩)
            | (go_at_call 82; refine (HR.out _ (by first | exact (Kept.refl _).drew | exact (Kept.refl _).drew.trans hk5)).mono ?_; rintro e w6 ⟨⟨vb, rfl, hob⟩, hk6⟩))
        all_goals (go_wp2_with fail; go_meet; exact ⟨hoa.sets.kept hk6, hob.sets, ((Kept.refl _).drew.trans hk5).trans hk6⟩)
      case rest =>
        obtain ⟨hA, hB, hK⟩ := hcut
        have HA := Lib.hid hA
        have HB := Lib.hid hB
        have HK := Lib.hid hK
        clear hA hB hK
        clear hq1 hq2 hq3 hb1 hb2 hb3 hb4 hcn HIH HT HD HL HR hk
        go_wp2_with fail
        obtain ⟨wo, rfl⟩ : ∃ wo : World, wo = wc := ⟨_, rfl⟩
        go_loopw [3, 4, 5, 6] (fun va vb vo _ wr => ∃ (xs ys zs : List Nat), Hid (SetsAt wo va xs ∧ SetsAt wo vb ys ∧ MInv ns zs xs ys) ∧ OwnInts wr wo.heap.size vo (ofN zs) ∧ Kept wo wr) (fun va vb _ _ _ => lenV va + lenV vb)
        case atStart => exact ⟨_, _, [], Lib.hid ⟨HA.out, HB.out, MInv.start ns h⟩, OwnInts.nil _ _, Kept.refl _⟩
        case round =>
          obtain ⟨xs, ys, zs, HI, hO, hKr⟩ := hrel
          have HO := Lib.hid hO
          have HKr := Lib.hid hKr
          have hlen := HI.out.2.2.len
          rw [← HN.out] at hlen
          have hmk := HI.out.2.2.masks (fun m hm => hv2.out m hm)
          have HM := Lib.hid hmk
          have hsz := hKr.size
          clear hO hKr hmk
          match xs, ys with
          | [], ys =>
            have HA2 := Lib.hid HI.out.1
            have HB2 := Lib.hid HI.out.2.1
            have HMI := Lib.hid HI.out.2.2
            clear HI HM
            obtain ⟨aa, ca, rfl, hca, hna⟩ := HA2.out.shape
            obtain ⟨ab, cb, rfl, hcb, hnb⟩ := HB2.out.shape
            simp only [List.length_nil] at HA2 hca hlen ⊢
            clear hna hnb
            go_wp2_with (first
              | (at_builtin; refine app_ints rfl _ _ rfl wo.heap.size _ (ofN zs) rfl HO.out _ (ofN []) rfl (HA2.out.1.kept HKr.out) (by simp; omega) hsz ?_; intro v7 w7 hown7 _ hb7; have O7 := Lib.hid hown7; have HB7 := Lib.hid hb7; clear hown7 hb7)
              | (at_builtin; refine app_ints rfl _ _ rfl wo.heap.size _ (ofN zs ++ ofN []) rfl O7.out _ (ofN ys) rfl (HB2.out.1.kept (HKr.out.app HB7.out)) (by simp; omega) (by have := (HKr.out.app HB7.out).size; omega) ?_; intro v8 w8 hown8 _ hb8; have O8 := Lib.hid hown8; have HB8 := Lib.hid hb8; clear hown8 hb8))
            go_ret
            refine ⟨⟨_, rfl, ⟨?_, fun z hz => hv2.out z ((mem_sortK ns z).1 hz)⟩⟩, HK.out.trans ((HKr.out.app HB7.out).app HB8.out)⟩
            have := O8.out
            rw [← List.map_append, ← List.map_append, HMI.out.doneL] at this
            exact this.mono (Nat.zero_le _)
          | x :: xs, [] =>
            have HA2 := Lib.hid HI.out.1
            have HB2 := Lib.hid HI.out.2.1
            have HMI := Lib.hid HI.out.2.2
            clear HI HM
            obtain ⟨aa, ca, rfl, hca, hna⟩ := HA2.out.shape
            obtain ⟨ab, cb, rfl, hcb, hnb⟩ := HB2.out.shape
            simp only [List.length_nil, List.length_cons] at HA2 HB2 hca hcb hlen ⊢
            have hp1 : (0 : Int) < ((xs.length + 1 : Nat) : Int) := by omega
            clear hna hnb
            go_wp2_with (first
              | (at_builtin; refine app_ints rfl _ _ rfl wo.heap.size _ (ofN zs) rfl HO.out _ (ofN (x :: xs)) rfl (HA2.out.1.kept HKr.out) (by simp; omega) hsz ?_; intro v7 w7 hown7 _ hb7; have O7 := Lib.hid hown7; have HB7 := Lib.hid hb7; clear hown7 hb7)
              | (at_builtin; refine app_ints rfl _ _ rfl wo.heap.size _ (ofN zs ++ ofN (x :: xs)) rfl O7.out _ (ofN []) rfl (HB2.out.1.kept (HKr.out.app HB7.out)) (by simp; omega) (by have := (HKr.out.app HB7.out).size; omega) ?_; intro v8 w8 hown8 _ hb8; have O8 := Lib.hid hown8; have HB8 := Lib.hid hb8; clear hown8 hb8))
            go_ret
            refine ⟨⟨_, rfl, ⟨?_, fun z hz => hv2.out z ((mem_sortK ns z).1 hz)⟩⟩, HK.out.trans ((HKr.out.app HB7.out).app HB8.out)⟩
            have := O8.out
            rw [← List.map_append, ← List.map_append, HMI.out.doneR] at this
            exact this.mono (Nat.zero_le _)
          | x :: xs, y :: ys =>
            have HA2 := Lib.hid HI.out.1
            have HB2 := Lib.hid HI.out.2.1
            have HMI := Lib.hid HI.out.2.2
            have mx : Mk x := HM.out.2.1 x (List.mem_cons_self ..)
            have my : Mk y := HM.out.2.2 y (List.mem_cons_self ..)
            clear HI HM
            obtain ⟨aa, ca, rfl, hca, hna⟩ := HA2.out.shape
            obtain ⟨ab, cb, rfl, hcb, hnb⟩ := HB2.out.shape
            obtain ⟨ba, oa, rfl⟩ := hna (by simp)
            obtain ⟨bb, ob, rfl⟩ := hnb (by simp)
            simp only [List.length_cons] at HA2 HB2 hca hcb hlen ⊢
            have c1 := HKr.out.cell HA2.out.head
            have c2 := HKr.out.cell HB2.out.head
            clear hna hnb
            have hp1 : (0 : Int) < ((xs.length + 1 : Nat) : Int) := by omega
            have hp2 : (0 : Int) < ((ys.length + 1 : Nat) : Int) := by omega
            have hp3 : (1 : Int) ≤ ((xs.length + 1 : Nat) : Int) := by omega
            have hp4 : (1 : Int) ≤ ((ys.length + 1 : Nat) : Int) := by omega
            have hp5 : (1 : Int) ≤ (ca : Int) := by omega
            have hp6 : (1 : Int) ≤ (cb : Int) := by omega
            have hcmp : ∀ W, Calls Tryz.prog 142 #[.int .i64 x, .int .i64 y] W fun e w' => e = .returned (.int .i64 (cmpR x y)) ∧ w' = W := fun W => (rcompare_any mx my W).mono fun _ _ ⟨h1, h2⟩ => ⟨h1, h2.symm⟩
            by_cases hxy : x = y
            · rw [show cmpR x y = 0 from if_pos hxy] at hcmp
              subst hxy
              have HC := Lib.hid hcmp
              clear hcmp
              go_wp2_with fail
              go_quiet ((go_at_call 142; exact Calls.quiet_of_same (HC.out _)))
              generalize HWQ : World.drewN wr _ = wq
              have HKq : Hid (Kept wr wq) := Lib.hid (by rw [← HWQ]; exact (Kept.refl _).drewN _)
              have HSq : wo.heap.size ≤ wq.heap.size := by have := HKq.out.size; omega
              have d1 := HKq.out.cell c1
              have d2 := HKq.out.cell c2
              clear HWQ c1 c2
              go_wp2_with (at_builtin; refine app_int rfl _ _ rfl wo.heap.size _ (ofN zs) rfl (HO.out.kept (HKq.out.alloc _)) _ (x : Int) rfl (by simp) (by simp; omega) (by simp; omega) ?_; intro v7 w7 hown7 _ hb7; have O7 := Lib.hid hown7; have HB7 := Lib.hid hb7; clear hown7 hb7)
              go_roundw
              case rel => exact ⟨xs, ys, zs ++ [x], Lib.hid ⟨HA2.out.rest, HB2.out.rest, HMI.out.eq⟩, by simpa [ofN] using O7.out, ((HKr.out.trans (HKq.out.alloc _)).app HB7.out)⟩
              case measure => simp [lenV]; try omega
            · by_cases hlt : ltK x y
              · rw [show cmpR x y = -1 by unfold cmpR; rw [if_neg hxy, if_pos hlt]] at hcmp
                have HC := Lib.hid hcmp
                have HXY := Lib.hid hlt
                clear hcmp hlt hxy
                go_wp2_with fail
                go_quiet ((go_at_call 142; exact Calls.quiet_of_same (HC.out _)))
                generalize HWQ : World.drewN wr _ = wq
                have HKq : Hid (Kept wr wq) := Lib.hid (by rw [← HWQ]; exact (Kept.refl _).drewN _)
                have HSq : wo.heap.size ≤ wq.heap.size := by have := HKq.out.size; omega
                have d1 := HKq.out.cell c1
                have d2 := HKq.out.cell c2
                clear HWQ c1 c2
                go_wp2_with (at_builtin; refine app_int rfl _ _ rfl wo.heap.size _ (ofN zs) rfl (HO.out.kept (HKq.out.alloc _)) _ (x : Int) rfl (by simp) (by simp; omega) (by simp; omega) ?_; intro v7 w7 hown7 _ hb7; have O7 := Lib.hid hown7; have HB7 := Lib.hid hb7; clear hown7 hb7)
                go_roundw
                case rel => exact ⟨xs, y :: ys, zs ++ [x], Lib.hid ⟨HA2.out.rest, HB2.out, HMI.out.lt HXY.out⟩, by simpa [ofN] using O7.out, ((HKr.out.trans (HKq.out.alloc _)).app HB7.out)⟩
                case measure => simp [lenV]; try omega
              · rw [show cmpR x y = 1 by unfold cmpR; rw [if_neg hxy, if_neg hlt]] at hcmp
                have HC := Lib.hid hcmp
                have hgt : ltK y x := by rcases ltK_total x y with h | h | h; exact absurd h hlt; exact absurd h hxy; exact h
                have HXY := Lib.hid hgt
                clear hcmp hlt hxy hgt
                go_wp2_with fail
                go_quiet ((go_at_call 142; exact Calls.quiet_of_same (HC.out _)))
                generalize HWQ : World.drewN wr _ = wq
                have HKq : Hid (Kept wr wq) := Lib.hid (by rw [← HWQ]; exact (Kept.refl _).drewN _)
                have HSq : wo.heap.size ≤ wq.heap.size := by have := HKq.out.size; omega
                have d1 := HKq.out.cell c1
                have d2 := HKq.out.cell c2
                clear HWQ c1 c2
                go_wp2_with (at_builtin; refine app_int rfl _ _ rfl wo.heap.size _ (ofN zs) rfl (HO.out.kept (HKq.out.alloc _)) _ (y : Int) rfl (by simp) (by simp; omega) (by simp; omega) ?_; intro v7 w7 hown7 _ hb7; have O7 := Lib.hid hown7; have HB7 := Lib.hid hb7; clear hown7 hb7)
                go_roundw
                case rel => exact ⟨x :: xs, ys, zs ++ [y], Lib.hid ⟨HA2.out, HB2.out.rest, HMI.out.gt HXY.out⟩, by simpa [ofN] using O7.out, ((HKr.out.trans (HKq.out.alloc _)).app HB7.out)⟩
                case measure => simp [lenV]; try omega
end Go.Proofs.YteodabnjkikogaaGreat

/-
  Walks: family.Covers, family.Check; slices.Equal of equal lists.
-/
namespace Go.Proofs.YteodabnjkikogaaGreat
open Go.RowKit

def covB (l : List Nat) (s : Nat) : Bool := l.any fun t => subN t s
end Go.Proofs.YteodabnjkikogaaGreat

/-
  Walks: topdown.Cuts, topdown.Steps.
-/
namespace Go.Proofs.YteodabnjkikogaaGreat
open Go.RowKit

/-- What run answers when it succeeds. -/
def RunGood (w' : World) (e : Ending) (p : List Nat × List Nat) : Prop := ∃ v1 v2 L, e = .returned (.tuple #[v1, v2, .nilIface]) ∧ OwnRws w' 0 v1 L ∧ L.Perm p.1 ∧ OwnInts w' 0 v2 (ofN p.2)
end Go.Proofs.YteodabnjkikogaaGreat

/-
  Walks: faultlinelaw31.awake.
-/
namespace Go.Proofs.YteodabnjkikogaaGreat
open Go.RowKit

theorem pc_even (n : Nat) (h : 0 < n) : pc (2 * n) = pc n := by
  conv => lhs; unfold pc
  rw [if_neg (by omega), show 2 * n % 2 = 0 by omega, show 2 * n / 2 = n by omega]; omega
theorem pc_odd (n : Nat) : pc (2 * n + 1) = 1 + pc n := by
  conv => lhs; unfold pc
  rw [if_neg (by omega), show (2 * n + 1) % 2 = 1 by omega, show (2 * n + 1) / 2 = n by omega]
theorem pc_two (k : Nat) : pc (2 ^ k) = 1 := by
  induction k with
  | zero => exact pcs.2.1
  | succ k ih => rw [Nat.pow_succ, Nat.mul_comm, pc_even _ (Nat.pow_pos (by omega))]; exact ih
theorem three_new (w : World) (x y z : Int) : IntsAt (w.alloc (.cells #[.int .i64 x, .int .i64 y, .int .i64 z] 3)) (.slice (some ⟨w.heap.size, 0, none⟩) 3 3) [x, y, z] := by
  refine ⟨_, 3, rfl, ⟨Nat.le_refl _, fun h => by cases h⟩, by simp, fun i hi => ⟨w.heap.size, 0, rfl, ?_⟩⟩
  match i, hi with
  | 0, _ => exact alloc_cell rfl rfl
  | 1, _ => exact alloc_cell rfl rfl
  | 2, _ => exact alloc_cell rfl rfl
end Go.Proofs.YteodabnjkikogaaGreat

/-
  Plain: numbers as lists of words of 32 bits, the lowest first.
-/
namespace Go.Proofs.YteodabnjkikogaaGreat

/-- The number of a list of words. -/
def nv : List Nat → Nat
  | [] => 0
  | x :: l => x + 4294967296 * nv l
/-- The words of a number, without zeros at the end. -/
def nw (n : Nat) : List Nat := if h : n = 0 then [] else n % 4294967296 :: nw (n / 4294967296)
termination_by n
decreasing_by exact Nat.div_lt_self (by omega) (by omega)
/-- All are words. -/
def Wd (l : List Nat) : Prop := ∀ x ∈ l, x < 4294967296
theorem Wd.nil : Wd [] := fun x h => by simp at h
theorem Wd.cons {x : Nat} {l : List Nat} (h : x < 4294967296) (k : Wd l) : Wd (x :: l) := fun y hy => (List.mem_cons.1 hy).elim (fun e => by rw [e]; exact h) (k y)
theorem Wd.tail {x : Nat} {l : List Nat} (h : Wd (x :: l)) : Wd l := fun y hy => h y (List.mem_cons_of_mem _ hy)
theorem Wd.head {x : Nat} {l : List Nat} (h : Wd (x :: l)) : x < 4294967296 := h x (List.mem_cons_self ..)
theorem Wd.take {l : List Nat} (h : Wd l) (n : Nat) : Wd (l.take n) := fun y hy => h y (List.mem_of_mem_take hy)
theorem Wd.drop {l : List Nat} (h : Wd l) (n : Nat) : Wd (l.drop n) := fun y hy => h y (List.mem_of_mem_drop hy)
theorem Wd.app {a b : List Nat} (h : Wd a) (k : Wd b) : Wd (a ++ b) := fun y hy => (List.mem_append.1 hy).elim (h y) (k y)
theorem Wd.set {l : List Nat} (h : Wd l) (i x : Nat) (hx : x < 4294967296) : Wd (l.set i x) := fun y hy => (List.mem_or_eq_of_mem_set hy).elim (h y) (fun e => by rw [e]; exact hx)
theorem Wd.getD {l : List Nat} (h : Wd l) (i : Nat) : l.getD i 0 < 4294967296 := by
  rw [List.getD_eq_getElem?_getD]
  cases hi : l[i]? with
  | none => simp
  | some x => simpa using h x (List.mem_of_getElem? hi)
theorem Wd.get {l : List Nat} (h : Wd l) {i : Nat} (hi : i < l.length) : l[i] < 4294967296 := h _ (List.getElem_mem _)
theorem Wd.zeros (n : Nat) : Wd (List.replicate n 0) := fun y hy => by have := List.eq_of_mem_replicate hy; omega
theorem nv_nil : nv [] = 0 := rfl
theorem nv_cons (x : Nat) (l : List Nat) : nv (x :: l) = x + 4294967296 * nv l := rfl
theorem nv_append (a b : List Nat) : nv (a ++ b) = nv a + 4294967296 ^ a.length * nv b := by
  induction a with
  | nil => simp [nv]
  | cons x a ih => rw [List.cons_append, nv_cons, nv_cons, ih, List.length_cons, Nat.pow_succ, Nat.mul_add, ← Nat.mul_assoc, Nat.mul_comm 4294967296 (4294967296 ^ a.length)]; omega
theorem nv_lt {a : List Nat} (h : Wd a) : nv a < 4294967296 ^ a.length := by
  induction a with
  | nil => simp [nv]
  | cons x a ih =>
    have h1 := ih h.tail
    have h2 := h.head
    rw [nv_cons, List.length_cons, Nat.pow_succ]
    omega
theorem nv_zeros (n : Nat) : nv (List.replicate n 0) = 0 := by
  induction n with
  | zero => rfl
  | succ n ih => rw [List.replicate_succ, nv_cons, ih]
theorem nv_take_succ (a : List Nat) (i : Nat) : nv (a.take (i + 1)) = nv (a.take i) + a.getD i 0 * 4294967296 ^ i := by
  by_cases h : i < a.length
  · rw [List.take_succ_eq_append_getElem h, nv_append, nv_cons, nv_nil, List.length_take, Nat.min_eq_left (Nat.le_of_lt h), Nat.mul_comm]
    simp [List.getD_eq_getElem?_getD, h]
  · rw [List.take_of_length_le (by omega), List.take_of_length_le (by omega)]
    simp [List.getD_eq_getElem?_getD, Nat.le_of_not_lt h]
theorem nv_take_all (a : List Nat) (i : Nat) (h : a.length ≤ i) : nv (a.take i) = nv a := by rw [List.take_of_length_le h]
theorem nv_split (a : List Nat) (i : Nat) (h : i ≤ a.length) : nv a = nv (a.take i) + 4294967296 ^ i * nv (a.drop i) := by
  conv => lhs; rw [← List.take_append_drop i a]
  rw [nv_append, List.length_take, Nat.min_eq_left h]
theorem nv_set (l : List Nat) : ∀ (i x : Nat), i < l.length → nv (l.set i x) + l.getD i 0 * 4294967296 ^ i = nv l + x * 4294967296 ^ i := by
  induction l with
  | nil => intro i x h; simp at h
  | cons y l ih =>
    intro i x h
    cases i with
    | zero => simp [nv_cons]; omega
    | succ i =>
      have := ih i x (by simpa using h)
      rw [List.set_cons_succ, nv_cons, nv_cons, List.getD_cons_succ, Nat.pow_succ, ← Nat.mul_assoc, ← Nat.mul_assoc, Nat.mul_comm _ 4294967296, Nat.mul_comm (x * _) 4294967296]
      omega
theorem nw_zero : nw 0 = [] := by rw [nw]; simp
theorem nw_pos {n : Nat} (h : n ≠ 0) : nw n = n % 4294967296 :: nw (n / 4294967296) := by rw [nw]; simp [h]
theorem nw_wd : ∀ n, Wd (nw n) := by
  intro n
  induction n using Nat.strongRecOn with
  | _ n ih =>
    by_cases h : n = 0
    · subst h; rw [nw_zero]; exact Wd.nil
    · rw [nw_pos h]; exact Wd.cons (Nat.mod_lt _ (by omega)) (ih _ (Nat.div_lt_self (by omega) (by omega)))
theorem nv_nw : ∀ n, nv (nw n) = n := by
  intro n
  induction n using Nat.strongRecOn with
  | _ n ih =>
    by_cases h : n = 0
    · subst h; rw [nw_zero]; rfl
    · rw [nw_pos h, nv_cons, ih _ (Nat.div_lt_self (by omega) (by omega))]; omega
/-- No zero at the end. -/
def Pl (l : List Nat) : Prop := ∀ h : l ≠ [], l.getLast h ≠ 0
theorem nw_nv : ∀ {l : List Nat}, Wd l → Pl l → nw (nv l) = l := by
  intro l
  induction l with
  | nil => intro _ _; exact nw_zero
  | cons x l ih =>
    intro hw hp
    have hx := hw.head
    have hne : nv (x :: l) ≠ 0 := by
      rw [nv_cons]
      by_cases hl : l = []
      · subst hl
        have := hp (by simp)
        simp at this
        rw [nv_nil]; omega
      · intro h0
        have h1 : nv l = 0 := by omega
        have h2 := ih hw.tail (fun h => by have := hp (by simp); rwa [List.getLast_cons h] at this)
        rw [h1, nw_zero] at h2
        exact hl h2.symm
    rw [nw_pos hne, nv_cons]
    have e1 : (x + 4294967296 * nv l) % 4294967296 = x := by omega
    have e2 : (x + 4294967296 * nv l) / 4294967296 = nv l := by omega
    rw [e1, e2, ih hw.tail fun h => by have := hp (by simp); rwa [List.getLast_cons h] at this]
theorem nw_pl (n : Nat) : Pl (nw n) := by
  induction n using Nat.strongRecOn with
  | _ n ih =>
    by_cases h : n = 0
    · subst h; rw [nw_zero]; intro h; exact absurd rfl h
    · rw [nw_pos h]
      intro _
      have h2 := ih (n / 4294967296) (Nat.div_lt_self (by omega) (by omega))
      by_cases h3 : nw (n / 4294967296) = []
      · have h4 : n / 4294967296 = 0 := by have := nv_nw (n / 4294967296); rw [h3] at this; exact this.symm
        simp [h3]; omega
      · rw [List.getLast_cons h3]; exact h2 h3
/-- The words of a list up to its last word that is not zero. -/
theorem nw_take {a : List Nat} (hw : Wd a) {n : Nat} (hn : n ≤ a.length) (hz : ∀ i, n ≤ i → a.getD i 0 = 0) (hl : n = 0 ∨ a.getD (n - 1) 0 ≠ 0) : nw (nv a) = a.take n := by
  have h1 : nv a = nv (a.take n) := by
    have : ∀ k, nv (a.take (n + k)) = nv (a.take n) := by
      intro k
      induction k with
      | zero => rfl
      | succ k ih => rw [← Nat.add_assoc, nv_take_succ, ih, hz (n + k) (by omega), Nat.zero_mul, Nat.add_zero]
    have h2 := this a.length
    rw [nv_take_all a _ (by omega)] at h2
    exact h2
  rw [h1]
  refine nw_nv (hw.take n) fun h => ?_
  have hpos : 0 < n := by
    rcases Nat.eq_zero_or_pos n with rfl | h2
    · simp at h
    · exact h2
  have := hl.resolve_left (by omega)
  rw [List.getLast_eq_getElem]
  simp only [List.getElem_take, List.length_take, Nat.min_eq_left hn]
  rw [List.getD_eq_getElem?_getD, List.getElem?_eq_getElem (by omega)] at this
  simpa using this
theorem nw_len_lt {n k : Nat} : (nw n).length ≤ k ↔ n < 4294967296 ^ k := by
  constructor
  · intro h
    have h1 := nv_lt (nw_wd n)
    rw [nv_nw] at h1
    exact Nat.lt_of_lt_of_le h1 (Nat.pow_le_pow_right (by omega) h)
  · intro h
    induction k generalizing n with
    | zero => simp at h; subst h; rw [nw_zero]; simp
    | succ k ih =>
      by_cases h0 : n = 0
      · subst h0; rw [nw_zero]; simp
      · rw [nw_pos h0, List.length_cons]
        have := ih (n := n / 4294967296) (by rw [Nat.pow_succ] at h; exact Nat.div_lt_of_lt_mul (by rw [Nat.mul_comm]; exact h))
        omega
theorem nw_eq_nil {n : Nat} : nw n = [] ↔ n = 0 := by
  constructor
  · intro h; have := nv_nw n; rw [h] at this; exact this.symm
  · intro h; rw [h]; exact nw_zero
/-- The highest word that differs decides. -/
theorem nv_lt_at {a b : List Nat} (ha : Wd a) (hl : a.length = b.length) {k : Nat} (hk : k < a.length) (hd : ∀ i, k < i → a.getD i 0 = b.getD i 0) (hlt : a.getD k 0 < b.getD k 0) : nv a < nv b := by
  have key : ∀ j, nv (a.take (k + 1 + j)) < nv (b.take (k + 1 + j)) := by
    intro j
    induction j with
    | zero =>
      rw [Nat.add_zero, nv_take_succ, nv_take_succ]
      have h1 := nv_lt (ha.take k)
      rw [List.length_take, Nat.min_eq_left (Nat.le_of_lt hk)] at h1
      have h2 : (a.getD k 0 + 1) * 4294967296 ^ k ≤ b.getD k 0 * 4294967296 ^ k := Nat.mul_le_mul_right _ hlt
      rw [Nat.add_mul, Nat.one_mul] at h2
      omega
    | succ j ih =>
      rw [← Nat.add_assoc, nv_take_succ, nv_take_succ, hd (k + 1 + j) (by omega)]
      omega
  have := key a.length
  rwa [nv_take_all a _ (by omega), nv_take_all b _ (by omega)] at this
theorem nv_eq_of {a b : List Nat} (hl : a.length = b.length) (hd : ∀ i, a.getD i 0 = b.getD i 0) : a = b := by
  refine List.ext_getElem hl fun i h1 h2 => ?_
  have := hd i
  simpa [List.getD_eq_getElem?_getD, h1, h2] using this
/-- Fewer words, less. -/
theorem nw_lt_len {m n : Nat} (h : (nw m).length < (nw n).length) : m < n := by
  have h1 := (nw_len_lt (n := m)).1 (Nat.le_refl _)
  have h2 : ¬ n < 4294967296 ^ (nw m).length := fun h2 => by have := nw_len_lt.2 h2; omega
  omega
end Go.Proofs.YteodabnjkikogaaGreat

/-
  Plain: the steps of sums, differences, products and quotients of lists of words.
-/
namespace Go.Proofs.YteodabnjkikogaaGreat

theorem mul_divmod (s P : Nat) : (s % 4294967296) * P + (s / 4294967296) * (4294967296 * P) = s * P := by
  have h := Nat.div_add_mod s 4294967296
  calc (s % 4294967296) * P + (s / 4294967296) * (4294967296 * P) = (4294967296 * (s / 4294967296) + s % 4294967296) * P := by
        rw [Nat.add_mul, Nat.mul_comm 4294967296 (s / 4294967296), Nat.mul_assoc]; omega
    _ = s * P := by rw [h]
theorem nv_take_set {l : List Nat} {i : Nat} (h : i < l.length) (x : Nat) : nv ((l.set i x).take (i + 1)) = nv (l.take i) + x * 4294967296 ^ i := by
  rw [nv_take_succ, List.take_set_of_le (Nat.le_refl _)]
  simp [List.getD_eq_getElem?_getD, h]
theorem getD_set_self {l : List Nat} {i : Nat} (h : i < l.length) (x : Nat) : (l.set i x).getD i 0 = x := by simp [List.getD_eq_getElem?_getD, h]
theorem getD_set_ne {l : List Nat} {i j : Nat} (h : i ≠ j) (x : Nat) : (l.set i x).getD j 0 = l.getD j 0 := by simp [List.getD_eq_getElem?_getD, List.getElem?_set_ne h]
theorem wadd_step {O c X Y x y P s : Nat} (h : O + c * P = X + Y) (hs : s = c + x + y) : (O + (s % 4294967296) * P) + (s / 4294967296) * (4294967296 * P) = (X + x * P) + (Y + y * P) := by
  have h1 := mul_divmod s P
  have h2 : s * P = c * P + x * P + y * P := by rw [hs, Nat.add_mul, Nat.add_mul]
  omega
/-- A difference of words, with a borrow. -/
theorem sub_step {O b X Y x y P o b' : Nat} (h : O + Y = X + b * P) (hs : o + y + b = x + b' * 4294967296) : (O + o * P) + (Y + y * P) = (X + x * P) + b' * (4294967296 * P) := by
  have h2 : (o + y + b) * P = (x + b' * 4294967296) * P := by rw [hs]
  rw [Nat.add_mul, Nat.add_mul, Nat.add_mul, Nat.mul_assoc] at h2
  omega
theorem nv_zero_of {l : List Nat} (h : nv l = 0) : ∀ i, l.getD i 0 = 0 := by
  induction l with
  | nil => simp
  | cons x l ih =>
    rw [nv_cons] at h
    intro i
    cases i with
    | zero => rw [List.getD_cons_zero]; omega
    | succ i => rw [List.getD_cons_succ]; exact ih (by omega) i
theorem getD_drop (l : List Nat) (k i : Nat) : (l.drop k).getD i 0 = l.getD (k + i) 0 := by simp [List.getD_eq_getElem?_getD]
theorem getD_take {l : List Nat} {k i : Nat} (h : i < k) : (l.take k).getD i 0 = l.getD i 0 := by simp [List.getD_eq_getElem?_getD, List.getElem?_take_of_lt h]
/-- A number of few words has zeros behind them. -/
theorem zero_above {l : List Nat} {k : Nat} (h : nv l < 4294967296 ^ k) : (∀ j, k ≤ j → l.getD j 0 = 0) ∧ nv (l.take k) = nv l := by
  by_cases hk : k ≤ l.length
  · have h1 := nv_split l k hk
    have h2 : nv (l.drop k) = 0 := by
      rcases Nat.eq_zero_or_pos (nv (l.drop k)) with h3 | h3
      · exact h3
      · have : 4294967296 ^ k * 1 ≤ 4294967296 ^ k * nv (l.drop k) := Nat.mul_le_mul_left _ h3
        omega
    refine ⟨fun j hj => ?_, by rw [h1, h2]; omega⟩
    have := nv_zero_of h2 (j - k)
    rwa [getD_drop, Nat.add_sub_cancel' hj] at this
  · refine ⟨fun j hj => ?_, nv_take_all _ _ (by omega)⟩
    simp [List.getD_eq_getElem?_getD, show l.length ≤ j by omega]
/-- A step of a product's row. -/
theorem mul_step {N c M x Y P y w s : Nat} (h : N + c * P = M + x * Y) (hs : s = c + x * y + w) : ∀ N', N' + w * P = N + (s % 4294967296) * P → N' + (s / 4294967296) * (4294967296 * P) = M + x * (Y + y * P) := by
  intro N' hN
  have h1 := mul_divmod s P
  have h2 : s * P = c * P + x * (y * P) + w * P := by rw [hs, Nat.add_mul, Nat.add_mul, Nat.mul_assoc]
  rw [Nat.mul_add]
  omega
theorem mul_carry {c x y w : Nat} (hc : c < 4294967296) (hx : x < 4294967296) (hy : y < 4294967296) (hw : w < 4294967296) : c + x * y + w < 18446744073709551616 := by
  have : x * y ≤ 4294967295 * 4294967295 := Nat.mul_le_mul (by omega) (by omega)
  omega
/-- Quotient and remainder. -/
theorem div_of {a b q r : Nat} (h : a = b * q + r) (hr : r < b) : a / b = q ∧ a % b = r := by
  subst h
  constructor
  · rw [Nat.mul_add_div (by omega), Nat.div_eq_of_lt hr, Nat.add_zero]
  · rw [Nat.mul_add_mod, Nat.mod_eq_of_lt hr]
theorem nv_drop_step {l : List Nat} {i : Nat} (h : i < l.length) : nv (l.drop i) = l.getD i 0 + 4294967296 * nv (l.drop (i + 1)) := by
  rw [List.drop_eq_getElem_cons h, nv_cons]
  simp [List.getD_eq_getElem?_getD, h]
theorem nv_drop_all {l : List Nat} {i : Nat} (h : l.length ≤ i) : nv (l.drop i) = 0 := by rw [List.drop_eq_nil_of_le h]; rfl
/-- A step of a division by one word. -/
theorem small_step {X Q b rest x cur : Nat} (h : X = b * Q + rest) (hr : rest < b) (hb : b < 4294967296) (hx : x < 4294967296) (hc : cur = rest * 4294967296 + x) :
    x + 4294967296 * X = b * (cur / b + 4294967296 * Q) + cur % b ∧ cur % b < b ∧ cur / b < 4294967296 ∧ cur < 18446744073709551616 := by
  have h1 := Nat.div_add_mod cur b
  have hcur : cur < b * 4294967296 := by
    have : (rest + 1) * 4294967296 ≤ b * 4294967296 := Nat.mul_le_mul_right _ hr
    omega
  have hbb : b * 4294967296 ≤ 4294967296 * 4294967296 := Nat.mul_le_mul_right _ (by omega)
  refine ⟨?_, Nat.mod_lt _ (by omega), Nat.div_lt_of_lt_mul hcur, by omega⟩
  rw [Nat.mul_add, show b * (4294967296 * Q) = 4294967296 * (b * Q) by rw [Nat.mul_left_comm]]
  subst h
  omega
/-- Shifting up by fewer than 32 bits. -/
theorem up_step {N X x n P w y : Nat} (hn : n < 32) (hN : N = X * 2 ^ n) (hy : y = x * 2 ^ n) (hw : w < 2 ^ n) : ∀ N', N' + w * P = N + (w ||| (y % 4294967296)) * P + (y / 4294967296) * (4294967296 * P) → (w ||| (y % 4294967296)) = w + y % 4294967296 ∧ N' = (X + x * P) * 2 ^ n := by
  have hor : (w ||| (y % 4294967296)) = w + y % 4294967296 := by
    have e : y % 4294967296 = 2 ^ n * (x % 2 ^ (32 - n)) := by
      rw [hy, show (4294967296 : Nat) = 2 ^ n * 2 ^ (32 - n) by rw [← Nat.pow_add, show n + (32 - n) = 32 by omega], Nat.mul_comm x, Nat.mul_mod_mul_left]
    rw [e, Nat.or_comm, ← Nat.two_pow_add_eq_or_of_lt hw]; omega
  intro N' h
  refine ⟨hor, ?_⟩
  rw [hor, Nat.add_mul] at h
  have h1 := mul_divmod y P
  have h2 : (X + x * P) * 2 ^ n = N + y * P := by rw [hN, hy, Nat.add_mul, Nat.mul_assoc, Nat.mul_assoc, Nat.mul_comm P]
  omega
theorem up_top {x n y : Nat} (hn : n < 32) (hx : x < 4294967296) (hy : y = x * 2 ^ n) : y < 18446744073709551616 ∧ y / 4294967296 < 2 ^ n := by
  have h2 : 2 ^ n ≤ 2 ^ 31 := Nat.pow_le_pow_right (by omega) (by omega)
  have h3 : y < 4294967296 * 2 ^ n := by rw [hy]; exact (Nat.mul_lt_mul_right (Nat.pow_pos (by omega))).2 hx
  exact ⟨by omega, Nat.div_lt_of_lt_mul h3⟩
/-- A word of a number shifted down. -/
theorem down_word {a : List Nat} (n i : Nat) (hn : n < 32) (hi : i < a.length) (hw : Wd a) : ((a.getD i 0 ||| a.getD (i + 1) 0 * 4294967296) / 2 ^ n) % 4294967296 = (nv a / 2 ^ n / 4294967296 ^ i) % 4294967296 := by
  have hor : (a.getD i 0 ||| a.getD (i + 1) 0 * 4294967296) = a.getD i 0 + 4294967296 * a.getD (i + 1) 0 := by
    rw [Nat.or_comm, Nat.mul_comm, show (4294967296 : Nat) = 2 ^ 32 by rfl, ← Nat.two_pow_add_eq_or_of_lt (by have := hw.getD i; omega)]; omega
  have e1 : nv a / 2 ^ n / 4294967296 ^ i = nv (a.drop i) / 2 ^ n := by
    rw [Nat.div_div_eq_div_mul, Nat.mul_comm, ← Nat.div_div_eq_div_mul, nv_split a i (Nat.le_of_lt hi), Nat.add_mul_div_left _ _ (Nat.pow_pos (by omega))]
    have := nv_lt (hw.take i)
    rw [List.length_take, Nat.min_eq_left (Nat.le_of_lt hi)] at this
    rw [Nat.div_eq_of_lt this, Nat.zero_add]
  rw [e1, hor, nv_drop_step hi]
  obtain ⟨z, hz⟩ : ∃ z, nv (a.drop (i + 1)) = a.getD (i + 1) 0 + 4294967296 * z := by
    by_cases h : i + 1 < a.length
    · exact ⟨_, nv_drop_step h⟩
    · refine ⟨0, ?_⟩
      rw [nv_drop_all (by omega)]
      simp [List.getD_eq_getElem?_getD, show a.length ≤ i + 1 by omega]
  rw [hz, Nat.mul_add, ← Nat.add_assoc]
  have e2 : 4294967296 * (4294967296 * z) = 2 ^ n * (4294967296 * (2 ^ (32 - n) * z)) := by
    rw [← Nat.mul_assoc, ← Nat.mul_assoc, Nat.mul_comm (2 ^ n) 4294967296, ← Nat.mul_assoc, Nat.mul_assoc 4294967296 (2 ^ n), ← Nat.pow_add, show n + (32 - n) = 32 by omega]
  rw [e2, Nat.add_mul_div_left _ _ (Nat.pow_pos (by omega)), Nat.add_mul_mod_self_left]
theorem mod_pow_succ (x i : Nat) : x % 4294967296 ^ (i + 1) = x % 4294967296 ^ i + (x / 4294967296 ^ i % 4294967296) * 4294967296 ^ i := by
  rw [Nat.pow_succ, Nat.mod_mul, Nat.mul_comm (4294967296 ^ i)]
end Go.Proofs.YteodabnjkikogaaGreat
