import Derived.WalkKit
import Derived.WalkSpells
import Derived.WalkLawsBesides
import Derived.Deep.QuietTactic
import Derived.BigQuiet
import Derived.Lib.Hide
import Derived.Shelf.Abstract
import Derived.Deep.RegionWith
import Derived.Laws.AppendOwnNone
import Derived.Lib.AppendZerosOnto
import Derived.Lib.SliceRun
import Derived.Lib.SlicesCompact
import Derived.Shelf.SlSortCmp.NoneTotal
import Derived.Maps.OwnOps
import Derived.Maps.OwnSet
import Derived.Maps.Views
import Derived.Deep.MidRow
import Derived.Deep.RegionHeld3
import Derived.Deep.AppendLies
import Derived.Deep.RegionLaw
import Derived.IntWalk
import Derived.StillTailTactics
import Derived.ProofKit
import Derived.OpenShut
import Derived.SizedLaws
import Derived.Lib.SmallJoins
import Derived.Deep.Slices
import Derived.Deep.Fields
import Derived.Deep.Strs
import Derived.Carry
import Derived.Deep.DeepCutAuto
import Derived.BigRegion
import Derived.ChangeAlike
import Derived.Deep.LoopGhost
import Derived.Lib.ItoaNum
import Derived.RegionTactic
import Derived.Shelf.SlSortCmp.PdqK
import Derived.Sort.LotA
import Derived.Sort.LotD2
import Derived.Lib.BitFns
import Derived.Deep.CutBlock
import Derived.Maps.RangeWalk
import Derived.Shelf.SlSortCmp.WholeK
import Derived.Laws.IdiomStrings
import Derived.Test.YtpaedhlacbpmpaaGreatDoorPX7
import Derived.Test.YtpaedhlacbpmpaaGreatDoorPX1
import Derived.Test.YtpaedhlacbpmpaaGreatDoorPX4
import Derived.Test.YtpaedhlacbpmpaaGreatDoorPX5
import Derived.Test.YtpaedhlacbpmpaaGreatDoorPX6
import Derived.Test.YtpaedhlacbpmpaaGreatDoorPX3
import Derived.Test.YtpaedhlacbpmpaaGreatDoorChecked
import Derived.Test.YtpaedhlacbpmpaaGreatDoorRows
import Derived.Lay
import Derived.Stop.Joined
import Derived.Test.YtpaedhlacbpmpaaGreatDoorCards
import Derived.Test.YtpaedhlacbpmpaaGreatDoorTie
import Derived.LaidMore
import Derived.SevenTiedAt
/-
  Walk: polynomial.Of, of a formula that Check accepts.
-/
namespace Go.Proofs.YtpaedhlacbpmpaaGreatDoor
open Go.RowKit

/-- The list of Of: the events, the nodes so far, empty places. -/
def polL (V n : Nat) (out : List Pol) : List Pol := (List.range V).map eventP ++ out ++ List.replicate (n - out.length) []
theorem polL_len {V n : Nat} {out : List Pol} (h : out.length ≤ n) : (polL V n out).length = V + n := by unfold polL; simp; omega
theorem polL_get {V n : Nat} {out : List Pol} {Y : Nat} (hY : Y < V + out.length) (h : Y < (polL V n out).length) : (polL V n out)[Y] = argP V out (Y : Int) := by
  unfold argP
  by_cases hV : Y < V
  · rw [if_pos (by omega)]
    simp [polL, hV]
  · rw [if_neg (by omega), show ((Y : Int) - (V : Int)).toNat = Y - V by omega]
    have h1 : Y - V < out.length := by omega
    simp only [polL]
    rw [List.getElem_append_left (by simp; omega), List.getElem_append_right (by simp; omega)]
    simp [List.getD_eq_getElem?_getD, h1]
theorem polL_snoc {V n : Nat} {out : List Pol} (p : Pol) (h : out.length < n) : (polL V n out).set (V + out.length) p = polL V n (out ++ [p]) := by
  unfold polL
  rw [List.set_append_right _ _ (by simp), show V + out.length - ((List.range V).map eventP ++ out).length = 0 by simp]
  obtain ⟨k, hk⟩ : ∃ k, n - out.length = k + 1 := ⟨n - out.length - 1, by omega⟩
  rw [hk, List.replicate_succ, List.set_cons_zero, show n - (out ++ [p]).length = k by simp; omega]
  simp
theorem polL_skip {V n : Nat} {out : List Pol} (h : out.length < n) : polL V n out = polL V n (out ++ [[]]) := by
  unfold polL
  obtain ⟨k, hk⟩ : ∃ k, n - out.length = k + 1 := ⟨n - out.length - 1, by omega⟩
  simp only [List.length_append, List.length_cons, List.length_nil]
  rw [hk, List.replicate_succ, show n - (out.length + (0 + 1)) = k by omega]
  simp
def evL (V n j : Nat) : List Pol := (List.range j).map eventP ++ List.replicate (V + n - j) []
theorem evL_zero (V n : Nat) : evL V n 0 = List.replicate (V + n) [] := rfl
theorem evL_step {V n j : Nat} (h : j < V) : (evL V n j).set j (eventP j) = evL V n (j + 1) := by
  unfold evL
  obtain ⟨k, hk⟩ : ∃ k, V + n - j = k + 1 := ⟨V + n - j - 1, by omega⟩
  rw [List.set_append_right _ _ (by simp), hk]
  simp only [List.length_map, List.length_range, Nat.sub_self, List.replicate_succ, List.set_cons_zero]
  rw [show V + n - (j + 1) = k by omega, List.range_succ, List.map_append]
  simp
theorem evL_full (V n : Nat) : evL V n V = polL V n [] := by
  unfold evL polL
  simp
theorem evL_len {V n j : Nat} (h : j ≤ V) : (evL V n j).length = V + n := by unfold evL; simp; omega
theorem ErrAt.made (w : World) : ErrAt (w.alloc (.cells #[.nilIface] 115)) w.heap.size false :=
  ⟨RowAt.made w #[.nilIface] 115, FixAt.made w #[.nilIface] 115⟩
theorem ErrAt.cell {w : World} {g : Nat} {e : Bool} (h : ErrAt w g e) : w.cell? ⟨g, 0, none⟩ = some (errV (if e = true then 4 else 0)) := h.1.cell (i := 0) (by simp)
theorem ErrAt.other {w w' : World} {g k : Nat} {e : Bool} (h : ErrAt w g e) (ho : OnlyAt k w w') (hne : g ≠ k) : ErrAt w' g e := by
  obtain ⟨⟨cur, h1, h2⟩, ⟨cur2, e2, h3, h4⟩⟩ := h
  have := ho.block g (heap_lt h1) hne
  exact ⟨⟨cur, this.trans h1, h2⟩, ⟨cur2, e2, this.trans h3, h4⟩⟩
theorem argP_gd {V : Nat} {out : List Pol} (hV : V ≤ 24) (h : ∀ p ∈ out, GdP p) (a : Int) : GdP (argP V out a) := by
  unfold argP
  split
  · exact ⟨_, PolV.event (by omega)⟩
  · exact gdp_getD h _
theorem polUp_none (V : Nat) (mark : List Bool) (nodes : List Nd) (m : Nat) (h : polUp V mark nodes m = none) : ∀ k, m ≤ k → polUp V mark nodes k = none := by
  intro k
  induction k with
  | zero => intro hk; rw [← (show m = 0 by omega)]; exact h
  | succ k ih =>
    intro hk
    rcases Nat.lt_or_ge k m with h1 | h1
    · rw [← (show m = k + 1 by omega)]; exact h
    · show (polUp V mark nodes k).bind _ = none
      rw [ih h1]; rfl
set_option maxRecDepth 100000 in
set_option maxHeartbeats 16000000 in
theorem pof_ok (v : Value) (f : Fm) (V T : Nat) (w : World) (hv : NodesAt w v f.nodes) (hok : Ok f V T) (hck : chkF f = 0) :
    Calls Tryz.prog 44 #[.agg #[.int .i64 V, v, .int .i64 T]] w fun e w' => TRes w' e (topP V T f.nodes) ∧ Kept w w' := by
  have h1 : ∀ W, Kept w W → Calls Tryz.prog 42 #[.agg #[.int .i64 V, v, .int .i64 T]] W fun e w' => e = .returned .nilIface ∧ Kept W w' := fun W hk => by
    have h := check_any v f W (hv.kept hk) (by rw [hok.top]; have := hok.tlt; have := hok.v24; have := hok.n128; omega)
    rw [hck, errV_zero] at h
    unfold fmV at h
    rw [hok.vars, hok.top] at h
    exact h
  have h2 : ∀ W, Kept w W → Calls Tryz.prog 84 #[.agg #[.int .i64 V, v, .int .i64 T]] W fun e w' => ∃ g, e = .returned (.slice (some ⟨g, 0, none⟩) (V + f.nodes.length) (V + f.nodes.length)) ∧ W.heap.size ≤ g ∧ RowAt w' g 4 ((belowK V T f.nodes).map .bool) ∧ Kept W w' := fun W hk => polBelow_any v f V T W (hv.kept hk) hok
  obtain ⟨R, hR⟩ : ∃ R, R = topP V T f.nodes := ⟨_, rfl⟩
  rw [← hR]
  have hgd := fun k out hk h => argP_good hok k out hk h
  obtain ⟨mark, hmark⟩ : ∃ m, m = belowK V T f.nodes := ⟨_, rfl⟩
  have hml : mark.length = V + f.nodes.length := by rw [hmark, len_belowK]
  unfold topP at hR
  rw [← hmark] at hR h2 hgd
  obtain ⟨a, c, rfl, _, hl, hx⟩ := hv
  obtain ⟨n, hn⟩ : ∃ n, n = f.nodes.length := ⟨_, rfl⟩
  rw [← hn] at h1 h2 hml hR ⊢
  have hn9 : n ≤ 128 := by rw [hn]; exact hok.n128
  have hV9 := hok.v24
  have hT9 : T < V + n := by rw [hn]; exact hok.tlt
  have H1 := Lib.hid h1
  have H2 := Lib.hid h2
  have HX := Lib.hid hx
  have HN := Lib.hid hn
  have HO := Lib.hid hok
  have HR := Lib.hid hR
  have HML := Lib.hid hml
  have HGD := Lib.hid hgd
  have HEV : Hid (∀ (i : Nat) W, i < 24 → Calls Tryz.prog 29 #[.int .i64 i] W fun e w' => (∃ v', e = .returned (.tuple #[v', .nilIface]) ∧ TrmsAt w' v' (polT (eventP i))) ∧ Kept W w') := Lib.hid fun i W h => pevent_any i W h
  clear h1 h2 hx hn hok hR hml hl hck hmark hgd
  go_enter Tryz.func44, Tryz.ntmps44
  go_wp2_with (first
    | (go_at_call 42; refine (H1.out _ ((Kept.refl _).alloc _)).mono ?_; rintro e w1 ⟨rfl, hk1⟩; have b0 := hk1.cell (p := ⟨w.heap.size, 0, none⟩) (v := .int .i64 V) (by simp); have b1 := hk1.cell (p := ⟨w.heap.size, 1, none⟩) (v := .slice a n c) (by simp); have b2 := hk1.cell (p := ⟨w.heap.size, 2, none⟩) (v := .int .i64 T) (by simp))
    | (go_at_call 84; refine (H2.out _ (((Kept.refl _).alloc _).trans hk1)).mono ?_; rintro e w2 ⟨gn, rfl, hgn, hrn, hk2⟩; have d0 := hk2.cell b0; have d1 := hk2.cell b1; have d2 := hk2.cell b2; have HRN := Lib.hid hrn; clear hrn)
    | (at_make; refine make_pol rfl _ _ rfl (V + n) (by show Value.int .i64 ((V : Int) + (n : Int)) = .int .i64 ((V + n : Nat) : Int); rw [Int.natCast_add]) (by show Value.int .i64 ((V : Int) + (n : Int)) = .int .i64 ((V + n : Nat) : Int); rw [Int.natCast_add]) (by omega) ?_; intro w3 ho3 hk3 hz3; have c0 := hk3.cell d0; have c1 := hk3.cell d1; have c2 := hk3.cell d2; have O3 := Lib.hid ho3; clear ho3))
  have hkb : Kept (w.alloc (.cells #[.int .i64 V, .slice a n c, .int .i64 T] 67)) w2 := hk1.trans hk2
  have HKB := Lib.hid hkb
  have HK3 := Lib.hid hk3
  have HB2 : Hid (w.heap.size < w2.heap.size) := Lib.hid (by have := hkb.size; simp at this; omega)
  clear b0 b1 b2 d0 d1 d2 hkb hk1 hk2 hk3
  go_loopg [30] V (fun kx s30 wr => ∃ j : Nat, j ≤ V ∧ s30 = .int .i64 j ∧ V - j ≤ kx ∧ Hid (OwnPols wr w2.heap.size (.slice (some ⟨w2.heap.size, 0, none⟩) (V + n) (V + n)) (evL V n j)) ∧ Hid (Kept w2 wr))
  case atStart => exact ⟨0, Nat.zero_le _, rfl, by omega, Lib.hid (by rw [evL_zero]; exact O3.out), HK3⟩
  case round =>
    clear c0 c1 c2 O3 HK3 hz3
    obtain ⟨j, hj, rfl, hjx, HOr, HKr⟩ := hrel
    have hkW := HKB.out.trans HKr.out
    have q0 := hkW.cell (p := ⟨w.heap.size, 0, none⟩) (v := .int .i64 V) (by simp)
    have q1 := hkW.cell (p := ⟨w.heap.size, 1, none⟩) (v := .slice a n c) (by simp)
    clear hkW
    by_cases hlt : j < V
    · have hji : (j : Int) < (V : Int) := by omega
      have hji2 : (j : Int) < (V : Int) + (n : Int) := by omega
      have hji3 : (j : Int) < ((V + n : Nat) : Int) := by omega
      go_wp2_with fail
      refine (HEV.out j _ (by omega)).mono ?_
      rintro e w4 ⟨⟨v4, rfl, hv4⟩, hk4⟩
      have HO4 := Lib.hid (HOr.out.kept hk4)
      have HK4 := Lib.hid (HKr.out.trans hk4)
      obtain ⟨u, hcu, _⟩ := HO4.out.cell j (by rw [evL_len hj]; omega)
      have hfu := HO4.out.free j
      have HS4 := Lib.hid (HO4.out.store (by rw [evL_len hj]) j hv4)
      obtain ⟨a4, c4, rfl⟩ := hv4.shape
      rw [show (polT (eventP j)).length = 1 from rfl] at HS4 ⊢
      have HKs := Lib.hid (HK4.out.store (Nat.le_refl _) j (.slice a4 1 c4))
      clear hv4 hk4 q0 q1
      go_wp2_with fail
      go_roundg (V - (j + 1))
      case measure => omega
      case rel => exact ⟨j + 1, by omega, by go_num, Nat.le_refl _, Lib.hid (by rw [← evL_step hlt]; exact HS4.out), HKs⟩
    · have hje : j = V := by omega
      have hji : ¬ (j : Int) < (V : Int) := by omega
      obtain ⟨wo, rfl⟩ : ∃ wo : World, wo = wr := ⟨_, rfl⟩
      obtain ⟨w5, hw5⟩ : ∃ w5, w5 = wo.alloc (.cells #[.nilIface] 115) := ⟨_, rfl⟩
      have hk5 : Kept wo w5 := by rw [hw5]; exact (Kept.refl _).alloc _
      have HE5 : Hid (ErrAt w5 wo.heap.size false) := Lib.hid (by rw [hw5]; exact ErrAt.made wo)
      have HO5 : Hid (OwnPols w5 w2.heap.size (.slice (some ⟨w2.heap.size, 0, none⟩) (V + n) (V + n)) (polL V n [])) := Lib.hid (by have h := HOr.out.kept hk5; rw [hje, evL_full] at h; exact h)
      have HK5 : Hid (Kept w2 w5) := Lib.hid (HKr.out.trans hk5)
      have HGE : Hid (w2.heap.size ≤ wo.heap.size) := Lib.hid HKr.out.size
      have HW5 := Lib.hid hw5
      have hlo : w.heap.size < wo.heap.size := Nat.lt_of_lt_of_le HB2.out HGE.out
      clear hje hw5 hk5 HOr HKr
      go_wp2_with fail
      rw [← HW5.out]
      clear q0 q1
      obtain ⟨ge, hge⟩ : ∃ ge, ge = wo.heap.size := ⟨_, rfl⟩
      rw [← hge] at HE5 HGE ⊢
      clear HW5 hge hlo
      go_loopg [45] n (fun kx s45 wr => ∃ (k : Nat) (out : List Pol), k ≤ n ∧ s45 = .int .i64 k ∧ n - k ≤ kx ∧ Hid (polUp V mark f.nodes k = some out ∧ OwnPols wr w2.heap.size (.slice (some ⟨w2.heap.size, 0, none⟩) (V + n) (V + n)) (polL V n out)) ∧ Hid (ErrAt wr ge false) ∧ Hid (Kept w2 wr))
      case atStart => exact ⟨0, [], Nat.zero_le _, rfl, by omega, Lib.hid ⟨rfl, HO5.out⟩, HE5, HK5⟩
      case round =>
        clear HO5 HE5 HK5
        obtain ⟨k, out, hk, rfl, hkx, HI, HEr, HK⟩ := hrel
        have hkW := HKB.out.trans HK.out
        have q0 := hkW.cell (p := ⟨w.heap.size, 0, none⟩) (v := .int .i64 V) (by simp)
        have q2 := hkW.cell (p := ⟨w.heap.size, 2, none⟩) (v := .int .i64 T) (by simp)
        have HOL := Lib.hid (len_polUp V mark f.nodes k out HI.out.1)
        by_cases hlt2 : k < n
        · have hkx2 : k < f.nodes.length := by have := HN.out; omega
          have hki : (k : Int) < (n : Int) := by omega
          have hup : polUp V mark f.nodes (k + 1) = polStep V mark f.nodes k out := by
            show ((polUp V mark f.nodes k).bind _) = _
            rw [HI.out.1]; rfl
          have hmc := (HRN.out.kept HK.out).cell (i := V + k) (by simp [HML.out]; omega)
          rw [getD_map_bool mark (V + k) (by rw [HML.out]; omega)] at hmc
          obtain ⟨b, o, rfl, u, hc1, hc2, hc3, hI⟩ := HX.out k hkx2
          have hkA : Kept w wr := ((Kept.refl w).alloc (.cells #[.int .i64 V, .slice (some ⟨b, o, none⟩) n c, .int .i64 T] 67)).trans hkW
          have hrange := node_range (hkA.cell hc1) (hkA.cell hc2) (hkA.cell hc3)
          obtain ⟨ax, cx, rfl, _, hlx, hcx⟩ := hI
          have hargs := HO.out.args k hkx2
          have h16 := argsOk_le (HO.out.argc k hkx2)
          have hargc := HO.out.argc k hkx2
          have harit := HO.out.arity k hkx2
          have hkind := HO.out.kind k hkx2
          unfold polStep at hup
          rw [show f.nodes.getD k noNd = f.nodes[k] by simp [List.getD_eq_getElem?_getD, hkx2]] at hup
          obtain ⟨kd, hkd⟩ : ∃ x, x = f.nodes[k].kind := ⟨_, rfl⟩
          obtain ⟨kk, hkk⟩ : ∃ x, x = f.nodes[k].k := ⟨_, rfl⟩
          obtain ⟨args, hag⟩ : ∃ x, x = f.nodes[k].args := ⟨_, rfl⟩
          rw [← hag] at hcx hargs hlx h16 hargc harit hup hrange
          rw [← hkd] at hargc harit hkind hup hrange
          rw [← hkk] at harit hup hrange
          obtain ⟨na, hna⟩ : ∃ x, x = args.length := ⟨_, rfl⟩
          rw [← hna] at hlx h16 hargc harit hrange
          have HRG := Lib.hid hrange
          have HUP := Lib.hid hup
          have HCX := Lib.hid hcx
          have HAR := Lib.hid hargs
          have HNA := Lib.hid hna
          have HGC := Lib.hid hargc
          have HRT := Lib.hid harit
          have HKD := Lib.hid hkind
          have HKA := Lib.hid hkA
          have hi1 : (V : Int) + (k : Int) < (V : Int) + (n : Int) := by omega
          have hi2 : (V : Int) + (k : Int) < ((V + n : Nat) : Int) := by omega
          have hgl : gn < wr.heap.size := Nat.lt_of_lt_of_le HRN.out.lt HK.out.size
          have hlw : w.heap.size < wr.heap.size := by have := hkW.size; simp at this; omega
          clear hc1 hc2 hc3 hrange hup hcx hargs hna hargc harit hkind hkA hkW hkd hkk hag
          cases hmk : mark.getD (V + k) false with
          | false =>
            rw [hmk] at hmc
            have HMK := Lib.hid hmk
            clear hmk
            go_wp2_with (with_reducible refine wpList_load_mid rfl 80 _ rfl b (o + k * 3) rfl _ _ HRG.out Tryz.underlying80 rfl (by kernel_rfl) ?_)
            have hka : Kept wr (wr.alloc (.cells #[.int .i64 kd, .int .i64 kk, .slice ax na cx] 80)) := (Kept.refl _).alloc _
            go_roundg (n - (k + 1))
            case measure => omega
            case rel => exact ⟨k + 1, out ++ [[]], by omega, by go_num, Nat.le_refl _, Lib.hid ⟨by rw [HUP.out, if_neg (by rw [HMK.out]; simp)], by rw [← polL_skip (by have := HOL.out; omega)]; exact HI.out.2.kept hka⟩, Lib.hid (HEr.out.kept hka), Lib.hid (HK.out.trans hka)⟩
          | true =>
            rw [hmk] at hmc
            have HMK := Lib.hid hmk
            clear hmk
            obtain ⟨wo, rfl⟩ : ∃ wo : World, wo = wr := ⟨_, rfl⟩
            go_wp2_with (with_reducible refine wpList_load_mid rfl 80 _ rfl b (o + k * 3) rfl _ _ HRG.out Tryz.underlying80 rfl (by kernel_rfl) ?_)
            clear hmc
            go_loopg [11, 61] na (fun ky s11 s61 wi => ∃ (p : Nat), p ≤ na ∧ s61 = .int .i64 p ∧ na - p ≤ ky ∧ Hid (OwnPols wi (wo.heap.size + 1) s11 ((args.take p).map (argP V out))) ∧ Hid (Kept (wo.alloc (.cells #[.int .i64 kd, .int .i64 kk, .slice ax na cx] 80)) wi))
            case atStart => exact ⟨0, Nat.zero_le _, rfl, by omega, Lib.hid (OwnPols.nil _ _), Lib.hid (Kept.refl _)⟩
            case round =>
              obtain ⟨p, hp, rfl, hpx, HA, HKi⟩ := hrel
              have hsi := HKi.out.size
              simp only [World.size_alloc] at hsi
              have HKw : Hid (Kept wo wr) := Lib.hid (((Kept.refl _).alloc _).trans HKi.out)
              by_cases hpn : p < na
              · have hpx2 : p < args.length := by have := HNA.out; omega
                have hpi : (p : Int) < (na : Int) := by omega
                obtain ⟨b2, o2, rfl, hc0⟩ := HCX.out p hpx2
                have hcell := (HKA.out.trans HKw.out).cell hc0
                obtain ⟨y, hy⟩ : ∃ y, y = args[p] := ⟨_, rfl⟩
                have hy2 := HAR.out args[p] (List.getElem_mem _)
                rw [← hy] at hcell hy2
                obtain ⟨Y, hY⟩ := Int.eq_ofNat_of_zero_le hy2.1
                subst hY
                have HST : Hid ((args.take (p + 1)).map (argP V out) = (args.take p).map (argP V out) ++ [argP V out (Y : Int)]) := Lib.hid (by
                  rw [List.take_succ_eq_append_getElem hpx2, List.map_append, ← hy]; rfl)
                have hal : ((args.take p).map (argP V out)).length ≤ 16 := by simp; omega
                have HAL := Lib.hid hal
                have hYk : Y < V + k := by omega
                have hY1 : (Y : Int) < ((V + n : Nat) : Int) := by omega
                have hY2 : (Y : Int) < (V : Int) + (n : Int) := by omega
                obtain ⟨uz, hcz0, huz0⟩ := HI.out.2.cell Y (by rw [polL_len (by have := HOL.out; omega)]; omega)
                rw [polL_get (by have := HOL.out; omega)] at huz0
                obtain ⟨za, zc, huze⟩ := huz0.shape
                obtain ⟨lz, hlz⟩ : ∃ lz, lz = (polT (argP V out (Y : Int))).length := ⟨_, rfl⟩
                rw [← hlz] at huze
                subst huze
                have hcz := HKw.out.cell hcz0
                have HUZ := Lib.hid (huz0.kept HKw.out)
                clear hc0 hy hcz0 huz0 hal hsi hlz
                go_wp2_with (at_builtin; refine app_pol rfl _ _ rfl (wo.heap.size + 1) _ ((args.take p).map (argP V out)) rfl (HA.out.kept ((Kept.refl _).alloc _)) _ _ (argP V out (Y : Int)) rfl (by simp) (HUZ.out.kept ((Kept.refl _).alloc _)) (by have := HAL.out; omega) (by simp; have := HKi.out.size; simp at this; omega) ?_; intro nv' w7 hown7 hg7 hb7; have O7 := Lib.hid hown7; have HB7 := Lib.hid hb7; clear hown7 hg7 hb7)
                go_roundg (na - (p + 1))
                case measure => omega
                case rel => exact ⟨p + 1, by omega, by go_num, Nat.le_refl _, Lib.hid (by rw [HST.out]; exact O7.out), Lib.hid ((HKi.out.alloc _).app (HB7.out.mono (by simp)))⟩
              · have hpi : ¬ (p : Int) < (na : Int) := by omega
                have hpe : p = na := by omega
                obtain ⟨acc, hacc⟩ : ∃ acc, acc = args.map (argP V out) := ⟨_, rfl⟩
                have hfull : (args.take p).map (argP V out) = acc := by rw [hacc, hpe, List.take_of_length_le (by have := HNA.out; omega)]
                rw [hfull] at HA
                have hal : acc.length = na := by rw [hacc]; simp; exact HNA.out.symm
                have hgood : ∀ q ∈ acc, GdP q := by
                  intro q hq
                  rw [hacc] at hq
                  obtain ⟨x, _, rfl⟩ := List.mem_map.1 hq
                  exact argP_gd hV9 (fun r hr => HGD.out k out (by have := HN.out; omega) HI.out.1 r hr) x
                have HER : Hid (ErrAt wr ge false) := Lib.hid (HEr.out.kept HKw.out)
                have HOW : Hid (OwnPols wr w2.heap.size (.slice (some ⟨w2.heap.size, 0, none⟩) (V + n) (V + n)) (polL V n out)) := Lib.hid (HI.out.2.kept HKw.out)
                obtain ⟨O, hO⟩ : ∃ O, O = nodeP kd kk acc := ⟨_, rfl⟩
                have HUO : Hid (polUp V mark f.nodes (k + 1) = O.map fun q => out ++ [q]) := Lib.hid (by rw [HUP.out, if_pos HMK.out, ← hacc, ← hO])
                have HND : Hid (∀ W, Kept wr W → Calls Tryz.prog 85 #[.pointer (some ⟨ge, 0, none⟩), .agg #[.int .i64 kd, .int .i64 kk, .slice ax na cx], u11] W fun e w' => NdP w' ge e O ∧ OnlyAt ge W w') := Lib.hid fun W hkw => by
                  rw [hO]
                  exact wnode_any ge (wo.heap.size + 1) u11 acc kd kk ax na cx W (HER.out.kept hkw) (HA.out.kept hkw) hgood HKD.out (by rw [hal]; exact HGC.out) (by rw [hal]; exact HRT.out) (by omega)
                have hs11 : ∃ a n c, u11 = .slice a n c := by
                  obtain ⟨us, h1, ⟨h2, h3⟩, _⟩ := HA.out
                  rcases h3 with ⟨h3, _⟩ | ⟨g, cap, cur, h3, _⟩
                  · exact ⟨_, _, _, h3⟩
                  · exact ⟨_, _, _, h3⟩
                obtain ⟨xa, xn, xc, rfl⟩ := hs11
                have hkW2 := HKB.out.trans (HK.out.trans HKw.out)
                have r0 := hkW2.cell (p := ⟨w.heap.size, 0, none⟩) (v := .int .i64 V) (by simp)
                have hnb := (RowAt.made wo #[.int .i64 kd, .int .i64 kk, .slice ax na cx] 80).kept HKi.out
                have n0 := hnb.cell (i := 0) (by simp)
                have n1 := hnb.cell (i := 1) (by simp)
                have n2 := hnb.cell (i := 2) (by simp)
                simp only [List.getElem_cons_succ, List.getElem_cons_zero] at n0 n1 n2
                have hge1 : ge < wo.heap.size := HEr.out.1.lt
                have hgl2 : w2.heap.size < wo.heap.size := by
                  obtain ⟨_, h, _⟩ := HI.out.2.cell (V + k) (by rw [polL_len (by have := HOL.out; omega)]; omega)
                  exact World.block_lt_of_cell? _ _ h
                have hwr : IntKind.i64.wrap ((V : Int) + (k : Int)) = (V : Int) + (k : Int) := IntWalk.i64_in _ (by omega)
                have hi0 : (0 : Int) ≤ (V : Int) + (k : Int) := by omega
                have hnat : ((V : Int) + (k : Int)).toNat = V + k := by omega
                have hwl := HB2.out
                have hwg := HGE.out
                have HNE1 : Hid (w.heap.size ≠ ge ∧ wo.heap.size ≠ ge ∧ w.heap.size ≠ w2.heap.size ∧ wo.heap.size ≠ w2.heap.size) := Lib.hid ⟨by omega, by omega, by omega, by omega⟩
                have HGN : Hid (ge ≠ w2.heap.size) := Lib.hid fun e => (HI.out.2.ne HEr.out) e.symm
                have HCL0 : Hid ((fun W : World => W.cell? ⟨w.heap.size, 0, none⟩ = some (.int .i64 V) ∧ W.cell? ⟨wo.heap.size, 0, none⟩ = some (.int .i64 kd) ∧ W.cell? ⟨wo.heap.size, 1, none⟩ = some (.int .i64 kk) ∧ W.cell? ⟨wo.heap.size, 2, none⟩ = some (.slice ax na cx)) wr) := Lib.hid ⟨r0, n0, n1, n2⟩
                have HCLd : Hid ((fun W : World => W.cell? ⟨w.heap.size, 0, none⟩ = some (.int .i64 V) ∧ W.cell? ⟨wo.heap.size, 0, none⟩ = some (.int .i64 kd) ∧ W.cell? ⟨wo.heap.size, 1, none⟩ = some (.int .i64 kk) ∧ W.cell? ⟨wo.heap.size, 2, none⟩ = some (.slice ax na cx)) wr.drew) := Lib.hid ⟨(Kept.refl wr).drew.cell r0, (Kept.refl wr).drew.cell n0, (Kept.refl wr).drew.cell n1, (Kept.refl wr).drew.cell n2⟩
                obtain ⟨wi, rfl⟩ : ∃ wi : World, wi = wr := ⟨_, rfl⟩
                clear hpe hfull hal hgood hacc hO hnb hkW2 hge1 hgl2 hwl hwg HA hsi
                go_wp2_with fail
                go_region_held3 (fun W => W.cell? ⟨w.heap.size, 0, none⟩ = some (.int .i64 V) ∧ W.cell? ⟨wo.heap.size, 0, none⟩ = some (.int .i64 kd) ∧ W.cell? ⟨wo.heap.size, 1, none⟩ = some (.int .i64 kk) ∧ W.cell? ⟨wo.heap.size, 2, none⟩ = some (.slice ax na cx))
                  (with_reducible first | exact HCLs.out _ | exact HCL8.out | exact HCLd.out | exact HCL0.out)
                  (first
                  | (go_at_call 85; (with_reducible refine (HND.out _ (Kept.refl _).drew).mono ?_); rintro en w8 ⟨⟨v8, r8, rfl, hv8, he8, hr8⟩, ho8⟩; have ho8' := OnlyAt.trans (OnlyAt.kept (Kept.refl wi).drew) ho8; obtain ⟨a8, c8, rfl⟩ := hv8.shape; obtain ⟨l8, hl8⟩ : ∃ l8, l8 = (polT r8).length := ⟨_, rfl⟩; rw [← hl8] at hv8 ⊢; have HV8 := Lib.hid hv8; have HE8 := Lib.hid he8; have HR8 := Lib.hid hr8; have HO8 := Lib.hid ho8'; have HOW8 := Lib.hid (HOW.out.err HER.out ho8'); obtain ⟨u8, hcu, _⟩ := HOW8.out.cell (V + k) (by rw [polL_len (by have := HOL.out; omega)]; omega); have hfu := HOW8.out.free (V + k); have HCL8 : Hid ((fun W : World => W.cell? ⟨w.heap.size, 0, none⟩ = some (.int .i64 V) ∧ W.cell? ⟨wo.heap.size, 0, none⟩ = some (.int .i64 kd) ∧ W.cell? ⟨wo.heap.size, 1, none⟩ = some (.int .i64 kk) ∧ W.cell? ⟨wo.heap.size, 2, none⟩ = some (.slice ax na cx)) w8) := Lib.hid ⟨ho8'.cell HNE1.out.1 r0, ho8'.cell HNE1.out.2.1 n0, ho8'.cell HNE1.out.2.1 n1, ho8'.cell HNE1.out.2.1 n2⟩; have HCLs : Hid (∀ u, (fun W : World => W.cell? ⟨w.heap.size, 0, none⟩ = some (.int .i64 V) ∧ W.cell? ⟨wo.heap.size, 0, none⟩ = some (.int .i64 kd) ∧ W.cell? ⟨wo.heap.size, 1, none⟩ = some (.int .i64 kk) ∧ W.cell? ⟨wo.heap.size, 2, none⟩ = some (.slice ax na cx)) (w8.setCell ⟨w2.heap.size, V + k, none⟩ u)) := Lib.hid fun u => have hos := (OnlyAt.refl w2.heap.size w8).store (V + k) u; ⟨hos.cell HNE1.out.2.2.1 HCL8.out.1, hos.cell HNE1.out.2.2.2 HCL8.out.2.1, hos.cell HNE1.out.2.2.2 HCL8.out.2.2.1, hos.cell HNE1.out.2.2.2 HCL8.out.2.2.2⟩; clear hv8 he8 ho8 ho8' hr8 hl8))
                obtain ⟨w9, hw9⟩ : ∃ w9, w9 = w8.setCell ⟨w2.heap.size, V + k, none⟩ (.slice a8 l8 c8) := ⟨_, rfl⟩
                have HOS : Hid (OnlyAt w2.heap.size w8 w9) := Lib.hid (by rw [hw9]; exact (OnlyAt.refl w2.heap.size w8).store (V + k) _)
                have HE9 : Hid (ErrAt w9 ge O.isNone) := Lib.hid (HE8.out.other HOS.out HGN.out)
                have HOW9 : Hid (OwnPols w9 w2.heap.size (.slice (some ⟨w2.heap.size, 0, none⟩) (V + n) (V + n)) ((polL V n out).set (V + k) r8)) := Lib.hid (by rw [hw9]; exact HOW8.out.store (by rw [polL_len (by have := HOL.out; omega)]) (V + k) HV8.out)
                have HK9 : Hid (Kept w2 w9) := Lib.hid (HOS.out.toKept (HO8.out.toKept (HK.out.trans HKw.out) HGE.out) (Nat.le_refl _))
                have HW9 := Lib.hid hw9
                clear hw9 r0 n0 n1 n2 hcu hfu
                rw [← HW9.out]
                have hce := HE9.out.cell
                cases hOn : O with
                | none =>
                  rw [hOn] at hce
                  change w9.cell? ⟨ge, 0, none⟩ = some (.iface 50 (.int .i64 4)) at hce
                  have HRN : Hid (R = none) := Lib.hid (by
                    rw [HR.out, polUp_none V mark f.nodes (k + 1) (by rw [HUO.out, hOn]; rfl) n (by omega)]; rfl)
                  have HKW9 : Hid (Kept w w9) := Lib.hid (((Kept.refl w).alloc _).trans (HKB.out.trans HK9.out))
                  clear hOn
                  go_wp2_with fail
                  go_quiet (fail)
                  go_wp2
                  go_ret2
                  exact ⟨by rw [HRN.out]; rfl, HKW9.out.drewN _⟩
                | some q =>
                  rw [hOn] at hce
                  change w9.cell? ⟨ge, 0, none⟩ = some .nilIface at hce
                  have HUQ : Hid (polUp V mark f.nodes (k + 1) = some (out ++ [q])) := Lib.hid (by rw [HUO.out, hOn]; rfl)
                  have HEQ : Hid (ErrAt w9 ge false) := Lib.hid (by have h := HE9.out; rw [hOn] at h; exact h)
                  have HOQ : Hid (OwnPols w9 w2.heap.size (.slice (some ⟨w2.heap.size, 0, none⟩) (V + n) (V + n)) (polL V n (out ++ [q]))) := Lib.hid (by
                    have h := HOW9.out
                    rw [HR8.out q hOn, show V + k = V + out.length by rw [HOL.out], polL_snoc q (by have := HOL.out; omega)] at h
                    exact h)
                  clear hOn
                  go_wp2_with fail
                  go_roundg (n - (k + 1))
                  case measure => omega
                  case rel => exact ⟨k + 1, out ++ [q], by omega, by go_num, Nat.le_refl _, Lib.hid ⟨HUQ.out, HOQ.out⟩, HEQ, HK9⟩
        · have hki : ¬ (k : Int) < (n : Int) := by omega
          have hke : k = f.nodes.length := by have := HN.out; omega
          have hken : k = n := by omega
          have HRR : Hid (R = some (argP V out (T : Int))) := Lib.hid (by rw [HR.out, ← hken, HI.out.1]; rfl)
          have hTi : (T : Int) < ((V + n : Nat) : Int) := by omega
          have hTi2 : (T : Int) < (V : Int) + (n : Int) := by omega
          obtain ⟨u, hcu, hu⟩ := HI.out.2.cell T (by rw [polL_len (by have := HOL.out; omega)]; omega)
          rw [polL_get (by have := HOL.out; omega)] at hu
          obtain ⟨pt, hpt⟩ : ∃ pt, pt = argP V out (T : Int) := ⟨_, rfl⟩
          rw [← hpt] at hu HRR
          have hpl : pt.length ≤ 4096 := by
            rw [hpt]
            exact (argP_gd hV9 (fun r hr => HGD.out k out (by omega) HI.out.1 r hr) _).acc.len
          have HCN : Hid (Calls Tryz.prog 86 #[u] wr fun e w' => (∃ v', e = .returned v' ∧ TrmsAt w' v' (polT pt)) ∧ Kept wr w') := Lib.hid (cloneT_any u _ _ hu (by rw [polT_len]; omega))
          have HKW : Hid (Kept w wr) := Lib.hid (((Kept.refl w).alloc _).trans hkW)
          obtain ⟨a8, c8, huz⟩ := hu.shape
          obtain ⟨l8, hl8⟩ : ∃ l8, l8 = (polT pt).length := ⟨_, rfl⟩
          rw [← hl8] at huz
          subst huz
          clear hke hken hu hpl hkW hpt hl8
          go_wp2_with fail
          refine HCN.out.mono ?_
          rintro e w9 ⟨⟨v9, rfl, hv9⟩, hk9⟩
          go_wp2
          go_ret2
          exact ⟨by rw [HRR.out]; exact ⟨_, rfl, hv9⟩, HKW.out.trans hk9⟩
end Go.Proofs.YtpaedhlacbpmpaaGreatDoor

/-
  Walks: large and heavy of the laws of chapter 20, faultlinebase.Terms of equal lists.
-/
namespace Go.Proofs.YtpaedhlacbpmpaaGreatDoor
open Go.RowKit

/-- A list that is looked at. -/
def NotLg (ts : List Trm) : Prop := (ts.length ≤ 40 ∨ 4096 < ts.length ∧ ts.length ≤ 5000) ∧ ∀ t ∈ ts, t.2.Short 4
/-- What large says. -/
def Lg20 (e : Ending) (L : List (Value × List Trm)) : Prop := ∃ b, e = .returned (.bool b) ∧ (b = false → ∀ x ∈ L, NotLg x.2)
/-- A bool. -/
def BoolE (e : Ending) : Prop := ∃ b, e = .returned (.bool b)
set_option maxRecDepth 100000 in
set_option maxHeartbeats 8000000 in
theorem large20_any (L : List (Value × List Trm)) (g : Nat) (w : World) (hL : ∀ i (h : i < L.length), w.cell? ⟨g, i, none⟩ = some L[i].1 ∧ TrmsRaw w L[i].1 L[i].2) (n : Nat) (hn : n = L.length) (hl : n ≤ 10) :
    Calls Tryz.prog 11 #[.slice (some ⟨g, 0, none⟩) n n] w fun e w' => Lg20 e L ∧ Kept w w' := by
  have HX := Lib.hid hL
  have HN := Lib.hid hn
  clear hL hn
  go_enter Tryz.func11, Tryz.ntmps11
  go_wp2_with fail
  go_loopg [9] n (fun kx s9 wr => ∃ k : Nat, k ≤ n ∧ s9 = .int .i64 k ∧ n - k ≤ kx ∧ Hid (∀ x ∈ L.take k, NotLg x.2) ∧ Hid (Kept w wr))
  case atStart => exact ⟨0, Nat.zero_le _, rfl, by omega, Lib.hid (by simp), Lib.hid (Kept.refl _)⟩
  case round =>
    obtain ⟨k, hk, rfl, hkx, HF, HK⟩ := hrel
    by_cases hlt : k < n
    · have hkl : k < L.length := by have := HN.out; omega
      have hkn : (k : Int) < (n : Int) := by omega
      obtain ⟨hc, hr⟩ := HX.out k hkl
      obtain ⟨x, hx⟩ : ∃ x, x = L[k] := ⟨_, rfl⟩
      rw [← hx] at hc hr
      obtain ⟨v, ts⟩ := x
      simp only at hc hr
      obtain ⟨a, c, rfl, ⟨_, _⟩, hl9, ht⟩ := hr
      have hc2 := HK.out.cell hc
      have HNX : Hid (NotLg ts → ∀ x ∈ L.take (k + 1), NotLg x.2) := Lib.hid fun h x hx2 => by
        rw [List.take_succ_eq_append_getElem hkl, ← hx] at hx2
        rcases List.mem_append.1 hx2 with h3 | h3
        · exact HF.out x h3
        · simp at h3; rw [h3]; exact h
      have HT := Lib.hid ht
      obtain ⟨m, hm⟩ : ∃ m, m = ts.length := ⟨_, rfl⟩
      rw [← hm] at hc2 hl9
      have HM := Lib.hid hm
      have HNL : Hid ((m ≤ 40 ∨ 4096 < m ∧ m ≤ 5000) → (∀ t ∈ ts, t.2.Short 4) → NotLg ts) := Lib.hid fun h1 h2 => ⟨by rw [← hm]; exact h1, h2⟩
      clear hc hx ht hm
      by_cases hbig : (40 < m ∧ m ≤ 4096) ∨ 5000 < m
      · by_cases h1 : 40 < m
        · have d1 : decide ((40 : Int) < (m : Int)) = true := decide_eq_true (by omega)
          by_cases h2 : m ≤ 4096
          · have d2 : decide ((m : Int) ≤ (4096 : Int)) = true := decide_eq_true (by omega)
            go_wp2_with fail
            go_ret
            exact ⟨⟨true, rfl, fun h => by cases h⟩, HK.out⟩
          · have d2 : decide ((m : Int) ≤ (4096 : Int)) = false := decide_eq_false (by omega)
            have d3 : decide ((5000 : Int) < (m : Int)) = true := decide_eq_true (by omega)
            go_wp2_with fail
            go_ret
            exact ⟨⟨true, rfl, fun h => by cases h⟩, HK.out⟩
        · exfalso; omega
      · have hsm : m ≤ 40 ∨ 4096 < m ∧ m ≤ 5000 := by omega
        have hg : ∀ P : Prop, (decide ((40 : Int) < (m : Int)) = true → decide ((m : Int) ≤ (4096 : Int)) = false → decide ((5000 : Int) < (m : Int)) = false → P) → (decide ((40 : Int) < (m : Int)) = false → decide ((5000 : Int) < (m : Int)) = false → P) → P := fun P p q => by
          have d3 : decide ((5000 : Int) < (m : Int)) = false := decide_eq_false (by omega)
          by_cases h1 : 40 < m
          · exact p (decide_eq_true (by omega)) (decide_eq_false (by omega)) d3
          · exact q (decide_eq_false (by omega)) d3
        have HSM := Lib.hid hsm
        obtain ⟨wo, rfl⟩ : ∃ wo : World, wo = wr := ⟨_, rfl⟩
        clear hbig hsm
        refine hg _ (fun d1 d2 d3 => ?_) (fun d1 d3 => ?_)
        all_goals
          clear hg
          go_wp2_with fail
          go_loopg [28] m (fun ky s28 wi => ∃ j : Nat, j ≤ m ∧ s28 = .int .i64 j ∧ m - j ≤ ky ∧ Hid (∀ t ∈ ts.take j, t.2.Short 4) ∧ Hid (Kept w wi))
          case atStart => exact ⟨0, Nat.zero_le _, rfl, by omega, Lib.hid (by simp), HK⟩
          case round =>
            obtain ⟨j, hj, rfl, hjy, HG, HKi⟩ := hrel
            by_cases hlt2 : j < m
            · have hjl : j < ts.length := by have := HM.out; omega
              have hjm : (j : Int) < (m : Int) := by omega
              obtain ⟨b, o, u1, u2, rfl, hrg, hw1, hw2, _⟩ := HT.out j hjl
              obtain ⟨t, ht⟩ : ∃ t, t = ts[j] := ⟨_, rfl⟩
              rw [← ht] at hrg hw1 hw2
              have HRG0 := range_same hrg HKi.out
              obtain ⟨a1, c1, rfl, hl1⟩ := hw1.shape
              obtain ⟨a2, c2, rfl, hl2⟩ := hw2.shape
              have HNT : Hid (t.2.Short 4 → ∀ x ∈ ts.take (j + 1), x.2.Short 4) := Lib.hid fun h x hx => by
                rw [List.take_succ_eq_append_getElem hjl, ← ht] at hx
                rcases List.mem_append.1 hx with hx | hx
                · exact HG.out x hx
                · simp at hx; rw [hx]; exact h
              obtain ⟨s, r⟩ := t
              simp only at HRG0 hl1 hl2 HNT
              have HSH : Hid (r.num.length ≤ 4 → r.den.length ≤ 4 → r.Short 4) := Lib.hid fun h1 h2 => ⟨h1, h2⟩
              obtain ⟨n1, hn1⟩ : ∃ n1, n1 = r.num.length := ⟨_, rfl⟩
              obtain ⟨n2, hn2⟩ : ∃ n2, n2 = r.den.length := ⟨_, rfl⟩
              rw [← hn1] at HRG0 hl1 HSH
              rw [← hn2] at HRG0 hl2 HSH
              obtain ⟨ng, hng⟩ : ∃ ng, ng = r.neg := ⟨_, rfl⟩
              rw [← hng] at HRG0
              have HRG : Hid (wr.rangeAt b (o + j * 4) [.int .i64 s, .bool ng, .slice a1 n1 c1, .slice a2 n2 c2]) := Lib.hid HRG0
              have HK2 : Hid (Kept w (wr.alloc (.cells #[.int .i64 s, .bool ng, .slice a1 n1 c1, .slice a2 n2 c2] 83))) := Lib.hid (HKi.out.alloc _)
              clear ht hrg hw1 hw2 HRG0 hn1 hn2 hng
              by_cases h1 : 4 < n1
              · have g1 : decide ((4 : Int) < (n1 : Int)) = true := decide_eq_true (by omega)
                go_wp2_with (with_reducible refine wpList_load_mid rfl 83 _ rfl b (o + j * 4) rfl _ _ HRG.out Tryz.underlying83 rfl (by kernel_rfl) ?_)
                go_ret
                exact ⟨⟨true, rfl, fun h => by cases h⟩, HK2.out⟩
              · have g1 : decide ((4 : Int) < (n1 : Int)) = false := decide_eq_false (by omega)
                by_cases h2 : 4 < n2
                · have g2 : decide ((4 : Int) < (n2 : Int)) = true := decide_eq_true (by omega)
                  go_wp2_with (with_reducible refine wpList_load_mid rfl 83 _ rfl b (o + j * 4) rfl _ _ HRG.out Tryz.underlying83 rfl (by kernel_rfl) ?_)
                  go_ret
                  exact ⟨⟨true, rfl, fun h => by cases h⟩, HK2.out⟩
                · have g2 : decide ((4 : Int) < (n2 : Int)) = false := decide_eq_false (by omega)
                  have HS4 := Lib.hid (HNT.out (HSH.out (by omega) (by omega)))
                  go_wp2_with (with_reducible refine wpList_load_mid rfl 83 _ rfl b (o + j * 4) rfl _ _ HRG.out Tryz.underlying83 rfl (by kernel_rfl) ?_)
                  go_roundg (m - (j + 1))
                  case measure => omega
                  case rel => exact ⟨j + 1, by omega, by go_num, Nat.le_refl _, HS4, HK2⟩
            · have hjm : ¬ (j : Int) < (m : Int) := by omega
              have HAL : Hid (∀ t ∈ ts, t.2.Short 4) := Lib.hid (by
                have h := HG.out
                rw [List.take_of_length_le (by have := HM.out; omega)] at h
                exact h)
              have HNK := Lib.hid (HNX.out (HNL.out HSM.out HAL.out))
              go_wp2_with fail
              go_roundg (n - (k + 1))
              case measure => omega
              case rel => exact ⟨k + 1, by omega, by go_num, Nat.le_refl _, HNK, HKi⟩
    · have hkn : ¬ (k : Int) < (n : Int) := by omega
      have HAL : Hid (∀ x ∈ L, NotLg x.2) := Lib.hid (by
        have h := HF.out
        rw [List.take_of_length_le (by have := HN.out; omega)] at h
        exact h)
      go_wp2
      go_ret
      exact ⟨⟨false, rfl, fun _ => HAL.out⟩, HK.out⟩
set_option maxRecDepth 100000 in
set_option maxHeartbeats 8000000 in
theorem heavy20_any (v : Value) (f : Fm) (w : World) (hv : NodesAt w v f.nodes) :
    Calls Tryz.prog 41 #[fmV v f] w fun e w' => BoolE e ∧ Kept w w' := by
  obtain ⟨a, c, rfl, _, hl, hx⟩ := hv
  obtain ⟨n, hn⟩ : ∃ n, n = f.nodes.length := ⟨_, rfl⟩
  rw [← hn] at hl ⊢
  obtain ⟨vars, nodes, top⟩ := f
  have HX := Lib.hid hx
  have HN := Lib.hid hn
  clear hx hn
  show Calls _ _ #[.agg #[.int .i64 vars, .slice a n c, .int .i64 top]] _ _
  go_enter Tryz.func41, Tryz.ntmps41
  go_wp2
  all_goals first
    | (go_ret; exact ⟨⟨_, rfl⟩, (Kept.refl _).alloc _⟩)
    | skip
  all_goals
    go_loopg [3, 35] n (fun kx s3 s35 wr => ∃ (k : Nat) (x : Int), k ≤ n ∧ s35 = .int .i64 k ∧ n - k ≤ kx ∧ s3 = .int .i64 x ∧ Kept w wr)
    case atStart => exact ⟨0, 0, Nat.zero_le _, rfl, by omega, rfl, (Kept.refl _).alloc _⟩
    case round =>
      obtain ⟨k, x, hk, rfl, hkx, rfl, hK⟩ := hrel
      by_cases hlt : k < n
      · obtain ⟨b, o, rfl, u, h1, h2, h3, h4⟩ := HX.out k (by have := HN.out; omega)
        obtain ⟨ax, cx, rfl, _, hlx, hcx⟩ := h4
        have hrange := Lib.hid (node_range (hK.cell h1) (hK.cell h2) (hK.cell h3))
        clear hcx h1 h2 h3
        generalize nodes[k].kind = kd at hrange
        generalize nodes[k].k = kk at hrange
        generalize nodes[k].args.length = na at hrange hlx
        have hkn : (k : Int) < (n : Int) := by omega
        go_wp2_with (with_reducible refine wpList_load_mid rfl 80 _ rfl b (o + k * 3) rfl _ _ hrange.out Tryz.underlying80 rfl (by kernel_rfl) ?_)
        have d1 : (wr.alloc (.cells #[.int .i64 kd, .int .i64 kk, .slice ax na cx] 80)).cell? ⟨wr.heap.size, 1, none⟩ = some (.int .i64 kk) := by simp
        have d2 : (wr.alloc (.cells #[.int .i64 kd, .int .i64 kk, .slice ax na cx] 80)).cell? ⟨wr.heap.size, 2, none⟩ = some (.slice ax na cx) := by simp
        go_region_held3 (fun w' => w'.cell? ⟨wr.heap.size, 1, none⟩ = some (.int .i64 kk) ∧ w'.cell? ⟨wr.heap.size, 2, none⟩ = some (.slice ax na cx))
          (first | go_keep | exact ⟨hk5.cell d1, hk5.cell d2⟩)
          (first | (go_at_call 80; refine (clip_any kk _).mono ?_; rintro e w5 ⟨⟨z, rfl⟩, hk5⟩))
        go_wp2
        go_roundg (n - (k + 1))
        case measure => omega
        case rel => exact ⟨k + 1, _, by omega, by go_num, Nat.le_refl _, rfl, (hK.alloc _).trans ((Kept.refl _).drew.trans hk5)⟩
      · have hkn : ¬ (k : Int) < (n : Int) := by omega
        go_wp2
        all_goals (go_ret; exact ⟨⟨_, rfl⟩, hK⟩)
set_option maxRecDepth 100000 in
set_option maxHeartbeats 8000000 in
theorem terms_true (va vb : Value) (ts : List Trm) (w : World) (ha : TrmsAt w va ts) (hb : TrmsAt w vb ts) :
    Calls Tryz.prog 20 #[va, vb] w fun e w' => e = .returned (.bool true) ∧ Kept w w' := by
  have HA := Lib.hid ha
  have HB := Lib.hid hb
  have hl := ha.len
  obtain ⟨a0, c0, rfl⟩ := ha.shape
  obtain ⟨a1, c1, rfl⟩ := hb.shape
  obtain ⟨n, hn⟩ : ∃ n, n = ts.length := ⟨_, rfl⟩
  rw [← hn] at HA HB hl ⊢
  have HN := Lib.hid hn
  clear ha hb hn
  go_enter Tryz.func20, Tryz.ntmps20
  go_wp2
  go_loopg [13] n (fun kx s13 wr => ∃ k : Nat, k ≤ n ∧ s13 = .int .i64 k ∧ n - k ≤ kx ∧ Hid (Kept w wr))
  case atStart => exact ⟨0, Nat.zero_le _, rfl, by omega, Lib.hid (Kept.refl _)⟩
  case round =>
    obtain ⟨k, hk, rfl, hkx, HK⟩ := hrel
    by_cases hlt : k < n
    · have hkl : k < ts.length := by have := HN.out; omega
      have hki : (k : Int) < (n : Int) := by omega
      obtain ⟨b, o, y1, y2, y3, b1, d1, b2, d2, rfl, z0, z1, z2, z3, HR1⟩ := (HA.out.kept HK.out).read k hkl
      obtain ⟨b', o', y1', y2', y3', b1', d1', b2', d2', rfl, z0', z1', z2', z3', HR2⟩ := (HB.out.kept HK.out).read k hkl
      generalize (ts.getD k default).1 = s at *
      generalize (ts.getD k default).2 = r at *
      obtain ⟨wi, rfl⟩ : ∃ wi : World, wi = wr := ⟨_, rfl⟩
      have HRT : Hid (∀ W, Kept wi W → Calls Tryz.prog 36 #[.agg #[.bool y1, .slice b1 y2 d1, .slice b2 y3 d2], .agg #[.bool y1', .slice b1' y2' d1', .slice b2' y3' d2']] W fun e w' => e = .returned (.bool true) ∧ Kept W w') := Lib.hid fun W h => rat_true _ _ r W (HR1.out.kept h) (HR2.out.kept h)
      have e2 : ((s : Int) != (s : Int)) = false := by simp
      have HCL0 : Hid ((fun W : World => W.cell? ⟨b, o + k * 4, none⟩ = some (.int .i64 s) ∧ W.cell? ⟨b, o + k * 4 + 1, none⟩ = some (.bool y1) ∧ W.cell? ⟨b, o + k * 4 + 2, none⟩ = some (.slice b1 y2 d1) ∧ W.cell? ⟨b, o + k * 4 + 3, none⟩ = some (.slice b2 y3 d2) ∧ W.cell? ⟨b', o' + k * 4, none⟩ = some (.int .i64 s) ∧ W.cell? ⟨b', o' + k * 4 + 1, none⟩ = some (.bool y1') ∧ W.cell? ⟨b', o' + k * 4 + 2, none⟩ = some (.slice b1' y2' d1') ∧ W.cell? ⟨b', o' + k * 4 + 3, none⟩ = some (.slice b2' y3' d2')) wi) := Lib.hid ⟨z0, z1, z2, z3, z0', z1', z2', z3'⟩
      have HSK : Hid (∀ W W' : World, Kept W W' → (fun W : World => W.cell? ⟨b, o + k * 4, none⟩ = some (.int .i64 s) ∧ W.cell? ⟨b, o + k * 4 + 1, none⟩ = some (.bool y1) ∧ W.cell? ⟨b, o + k * 4 + 2, none⟩ = some (.slice b1 y2 d1) ∧ W.cell? ⟨b, o + k * 4 + 3, none⟩ = some (.slice b2 y3 d2) ∧ W.cell? ⟨b', o' + k * 4, none⟩ = some (.int .i64 s) ∧ W.cell? ⟨b', o' + k * 4 + 1, none⟩ = some (.bool y1') ∧ W.cell? ⟨b', o' + k * 4 + 2, none⟩ = some (.slice b1' y2' d1') ∧ W.cell? ⟨b', o' + k * 4 + 3, none⟩ = some (.slice b2' y3' d2')) W → (fun W : World => W.cell? ⟨b, o + k * 4, none⟩ = some (.int .i64 s) ∧ W.cell? ⟨b, o + k * 4 + 1, none⟩ = some (.bool y1) ∧ W.cell? ⟨b, o + k * 4 + 2, none⟩ = some (.slice b1 y2 d1) ∧ W.cell? ⟨b, o + k * 4 + 3, none⟩ = some (.slice b2 y3 d2) ∧ W.cell? ⟨b', o' + k * 4, none⟩ = some (.int .i64 s) ∧ W.cell? ⟨b', o' + k * 4 + 1, none⟩ = some (.bool y1') ∧ W.cell? ⟨b', o' + k * 4 + 2, none⟩ = some (.slice b1' y2' d1') ∧ W.cell? ⟨b', o' + k * 4 + 3, none⟩ = some (.slice b2' y3' d2')) W') := Lib.hid fun W W' hk ⟨p0, p1, p2, p3, p4, p5, p6, p7⟩ => ⟨hk.cell p0, hk.cell p1, hk.cell p2, hk.cell p3, hk.cell p4, hk.cell p5, hk.cell p6, hk.cell p7⟩
      have HCLd := Lib.hid (HSK.out wi wi.drew (Kept.refl _).drew HCL0.out)
      go_wp2_with fail
      go_region_held3 (fun W => W.cell? ⟨b, o + k * 4, none⟩ = some (.int .i64 s) ∧ W.cell? ⟨b, o + k * 4 + 1, none⟩ = some (.bool y1) ∧ W.cell? ⟨b, o + k * 4 + 2, none⟩ = some (.slice b1 y2 d1) ∧ W.cell? ⟨b, o + k * 4 + 3, none⟩ = some (.slice b2 y3 d2) ∧ W.cell? ⟨b', o' + k * 4, none⟩ = some (.int .i64 s) ∧ W.cell? ⟨b', o' + k * 4 + 1, none⟩ = some (.bool y1') ∧ W.cell? ⟨b', o' + k * 4 + 2, none⟩ = some (.slice b1' y2' d1') ∧ W.cell? ⟨b', o' + k * 4 + 3, none⟩ = some (.slice b2' y3' d2'))
        (with_reducible first | exact HCL5.out | exact HCLd.out | exact HCL0.out)
        (first | (go_at_call 36; (with_reducible refine (HRT.out _ (Kept.refl _).drew).mono ?_); rintro e w5 ⟨rfl, hk5⟩; have HK5 := Lib.hid ((Kept.refl wi).drew.trans hk5); have HCL5 := Lib.hid (HSK.out _ _ HK5.out HCL0.out); clear hk5))
      clear z0 z1 z2 z3 z0' z1' z2' z3'
      go_wp2_with fail
      go_roundg (n - (k + 1))
      case measure => omega
      case rel => exact ⟨k + 1, by omega, by go_num, Nat.le_refl _, Lib.hid (HK.out.trans HK5.out)⟩
    · have hki : ¬ (k : Int) < (n : Int) := by omega
      go_wp2
      go_ret
      exact ⟨rfl, HK.out⟩
end Go.Proofs.YtpaedhlacbpmpaaGreatDoor

/-
  Walks: rational.Text of -1, awake of the laws of chapter 20.
-/
namespace Go.Proofs.YtpaedhlacbpmpaaGreatDoor
open Go.RowKit

theorem neg_rw : canR (-1) = ⟨true, [1], [1]⟩ := by decide +kernel
set_option maxRecDepth 100000 in
set_option maxHeartbeats 4000000 in
theorem rtext_neg (v : Value) (w : World) (hv : RatAt w v (canR (-1))) :
    Calls Tryz.prog 49 #[v] w fun e w' => e = .returned (.string ⟨#[45, 49]⟩) ∧ Kept w w' := by
  have HPA : Hid (∀ W, Kept w W → Calls Tryz.prog 66 #[v] W fun e w' => (∃ u1 u2, e = .returned (.tuple #[.bool true, u1, u2]) ∧ WdsAt w' u1 [1] ∧ WdsAt w' u2 [1]) ∧ Kept W w') := Lib.hid fun W hk => by
    have h := rparts_any v _ W (hv.kept hk) (by rw [neg_rw]; exact ⟨by decide, by decide⟩)
    rw [show partsR (canR (-1)) = (true, [1], [1]) by decide +kernel] at h
    exact h
  have HTA : Hid (∀ W u, WdsAt W u [1] → Calls Tryz.prog 91 #[u] W fun e w' => e = .returned (.string ⟨#[49]⟩) ∧ Kept W w') := Lib.hid fun W u h => ntext_any u [1] 1 [49] W h rfl (by decide) (by decide) (by decide) (by decide)
  have HCM : Hid (∀ W u1 u2, WdsAt W u1 [1] → WdsAt W u2 [1] → Calls Tryz.prog 70 #[u1, u2] W fun e w' => e = .returned (.int .i64 0) ∧ Kept W w') := Lib.hid fun W u1 u2 h1 h2 => by
    have h := ncmp_any u1 u2 [1] [1] W h1 h2
    have e3 : cmpN (nv [1]) (nv [1]) = 0 := by unfold cmpN; rw [if_neg (by omega), if_neg (by omega)]
    rwa [e3] at h
  have HS : Hid ((⟨#[45]⟩ : ByteArray) ++ (⟨#[49]⟩ : ByteArray) = ⟨#[45, 49]⟩) := Lib.hid (by decide +kernel)
  rw [neg_rw] at hv
  obtain ⟨u1, u2, rfl, h1, h2⟩ := hv
  obtain ⟨a1, c1, rfl⟩ := h1.shape
  obtain ⟨a2, c2, rfl⟩ := h2.shape
  clear h1 h2
  go_enter Tryz.func49, Tryz.ntmps49
  go_wp2_with (first
    | (go_at_call 66; refine (HPA.out _ ((Kept.refl w).alloc _)).mono ?_; rintro e w2 ⟨⟨u1, u2, rfl, hu1, hu2⟩, hk2⟩; have HU1 := Lib.hid hu1; have HU2 := Lib.hid hu2; have HK2 := Lib.hid (((Kept.refl w).alloc _).trans hk2); clear hu1 hu2 hk2)
    | (go_at_call 91; (with_reducible refine (HTA.out _ _ HU1.out).mono ?_); rintro e w3 ⟨rfl, hk3⟩; have HU3 := Lib.hid (HU2.out.kept hk3); have HK3 := Lib.hid (HK2.out.trans hk3); clear hk3)
    | (go_at_call 90; refine (rone_any _).mono ?_; rintro e w4 ⟨⟨u4, rfl, hu4⟩, hk4⟩; have HU4 := Lib.hid hu4; have HU5 := Lib.hid (HU3.out.kept hk4); have HK4 := Lib.hid (HK3.out.trans hk4); clear hu4 hk4)
    | (go_at_call 70; refine (HCM.out _ _ _ HU5.out HU4.out).mono ?_; rintro e w5 ⟨rfl, hk5⟩; have HK5 := Lib.hid (HK4.out.trans hk5); clear hk5))
  go_ret
  exact ⟨by first | rfl | (rw [HS.out]; rfl), HK5.out⟩
/-- The example: a or b. -/
def ex20 : List Nd := [⟨3, 0, [0, 1]⟩]
def exP20 : Pol := [(1, 1), (2, 1), (3, -1)]
def exX20 : List Rw := [canR (mkRat 1 2), canR (mkRat 1 3)]
theorem ex20_top : topP 2 2 ex20 = some exP20 := by decide +kernel
theorem ex20_chk : chkF ⟨2, ex20, 2⟩ = 0 := by decide +kernel
theorem ex20_ok : Ok ⟨2, ex20, 2⟩ 2 2 := by
  obtain ⟨V, T, h⟩ := ok_of _ ex20_chk
  have h1 : (2 : Int) = V := h.vars
  have h2 : (2 : Int) = T := h.top
  have e1 : V = 2 := by omega
  have e2 : T = 2 := by omega
  subst e1 e2
  exact h
theorem ex20_ev : evQ exX20 exP20 = mkRat 2 3 := by decide +kernel
theorem ex20_short : ∀ r ∈ exX20, r.Short 4 := by
  intro r hr
  unfold exX20 at hr
  rcases List.mem_cons.1 hr with rfl | hr
  · exact ⟨by decide +kernel, by decide +kernel⟩
  · rw [List.mem_singleton] at hr
    subst hr
    exact ⟨by decide +kernel, by decide +kernel⟩
theorem ex20_gd : GdP exP20 := ⟨_, topP_v ex20_ok ex20_top⟩
theorem ex20_nodes (W : World) : NodesAt ((W.alloc (.cells #[.int .i64 0, .int .i64 1] 3)).alloc (.cells #[.int .i64 3, .int .i64 0, .slice (some ⟨W.heap.size, 0, none⟩) 2 2] 80)) (.slice (some ⟨W.heap.size + 1, 0, none⟩) 1 1) ex20 := by
  have hk : Kept (W.alloc (.cells #[.int .i64 0, .int .i64 1] 3)) ((W.alloc (.cells #[.int .i64 0, .int .i64 1] 3)).alloc (.cells #[.int .i64 3, .int .i64 0, .slice (some ⟨W.heap.size, 0, none⟩) 2 2] 80)) := (Kept.refl _).alloc _
  have h1 : IntsAt ((W.alloc (.cells #[.int .i64 0, .int .i64 1] 3)).alloc (.cells #[.int .i64 3, .int .i64 0, .slice (some ⟨W.heap.size, 0, none⟩) 2 2] 80)) (.slice (some ⟨W.heap.size, 0, none⟩) 2 2) [0, 1] := pair_at (hk.cell (alloc_cell rfl rfl)) (hk.cell (alloc_cell rfl rfl))
  refine ⟨_, 1, rfl, ⟨Nat.le_refl _, fun h => by cases h⟩, by simp [ex20], fun i hi => ?_⟩
  have hi0 : i = 0 := by simp [ex20] at hi; omega
  subst hi0
  refine ⟨W.heap.size + 1, 0, rfl, .slice (some ⟨W.heap.size, 0, none⟩) 2 2, ?_, ?_, ?_, ?_⟩
  · exact alloc_cell (by simp) rfl
  · exact alloc_cell (by simp) rfl
  · exact alloc_cell (by simp) rfl
  · exact h1
theorem rats_two20 {w : World} {r1 r2 : Rw} {b1 b2 : Bool} {u1 v1 u2 v2 : Value} (h1 : RatAt w (.agg #[.bool b1, u1, v1]) r1) (h2 : RatAt w (.agg #[.bool b2, u2, v2]) r2) :
    RatsAt (w.alloc (.cells #[.bool b1, u1, v1, .bool b2, u2, v2] 38)) (.slice (some ⟨w.heap.size, 0, none⟩) 2 2) [r1, r2] := by
  obtain ⟨x1, x2, e1, k1, k2⟩ := h1
  obtain ⟨x3, x4, e2, k3, k4⟩ := h2
  simp only [Value.agg.injEq, Array.mk.injEq, List.cons.injEq, Value.bool.injEq, and_true] at e1 e2
  obtain ⟨rfl, rfl, rfl⟩ := e1
  obtain ⟨rfl, rfl, rfl⟩ := e2
  have hk : Kept w (w.alloc (.cells #[.bool r1.neg, u1, v1, .bool r2.neg, u2, v2] 38)) := (Kept.refl _).alloc _
  refine ⟨_, 2, rfl, ⟨by simp, fun h => by cases h⟩, by simp, fun i hi => ?_⟩
  match i, hi with
  | 0, _ =>
    refine ⟨w.heap.size, 0, u1, v1, rfl, fun j v hj => ?_, k1.kept hk, k2.kept hk⟩
    match j, hj with
    | 0, hj => simp at hj; subst hj; simp
    | 1, hj => simp at hj; subst hj; simp
    | 2, hj => simp at hj; subst hj; simp
  | 1, _ =>
    refine ⟨w.heap.size, 0, u2, v2, rfl, fun j v hj => ?_, k3.kept hk, k4.kept hk⟩
    match j, hj with
    | 0, hj => simp at hj; subst hj; simp
    | 1, hj => simp at hj; subst hj; simp
    | 2, hj => simp at hj; subst hj; simp
set_option maxRecDepth 100000 in
set_option maxHeartbeats 8000000 in
theorem awake20_ok (w : World) : Calls Tryz.prog 10 #[] w fun e w' => e = .returned (.bool true) ∧ Kept w w' := by
  have HOF : Hid (∀ W, Calls Tryz.prog 44 #[.agg #[.int .i64 2, .slice (some ⟨W.heap.size + 1, 0, none⟩) 1 1, .int .i64 2]] ((W.alloc (.cells #[.int .i64 0, .int .i64 1] 3)).alloc (.cells #[.int .i64 3, .int .i64 0, .slice (some ⟨W.heap.size, 0, none⟩) 2 2] 80)) fun e w' => (∃ v', e = .returned (.tuple #[v', .nilIface]) ∧ TrmsAt w' v' (polT exP20)) ∧ Kept W w') := Lib.hid fun W => by
    have h := pof_ok _ ⟨2, ex20, 2⟩ 2 2 _ (ex20_nodes W) ex20_ok ex20_chk
    rw [show topP 2 2 (Fm.nodes ⟨2, ex20, 2⟩) = some exP20 from ex20_top] at h
    exact h.mono fun e w' ⟨h1, h2⟩ => ⟨h1, (((Kept.refl W).alloc _).alloc _).trans h2⟩
  have HM1 : Hid (∀ W, Calls Tryz.prog 48 #[.int .i64 1, .int .i64 2] W fun e w' => (∃ v', e = .returned (.tuple #[v', .nilIface]) ∧ RatAt w' v' (canR (mkRat 1 2))) ∧ Kept W w') := Lib.hid fun W => rmake_any 1 2 W (by decide) (by decide) (by decide)
  have HM2 : Hid (∀ W, Calls Tryz.prog 48 #[.int .i64 1, .int .i64 3] W fun e w' => (∃ v', e = .returned (.tuple #[v', .nilIface]) ∧ RatAt w' v' (canR (mkRat 1 3))) ∧ Kept W w') := Lib.hid fun W => rmake_any 1 3 W (by decide) (by decide) (by decide)
  have HEV : Hid (∀ W v g, W.heap.size = g → ∀ w2, Kept W w2 → RatsAt w2 (.slice (some ⟨g, 0, none⟩) 2 2) exX20 → TrmsAt w2 v (polT exP20) → Calls Tryz.prog 34 #[v, .slice (some ⟨g, 0, none⟩) 2 2] w2 fun e w' => (∃ v', e = .returned (.tuple #[v', .nilIface]) ∧ RatAt w' v' (canR (mkRat 2 3))) ∧ Kept w2 w') := Lib.hid fun W v g _ w2 _ h1 h2 => by
    have h := peval_any v _ exP20 exX20 w2 h2 h1 ex20_gd.acc (ex20_gd.sh.mono (by omega)) ex20_short (by decide) (by decide +kernel)
    rw [ex20_ev] at h
    exact h
  have HT1 : Hid (∀ W v, RatAt W v (canR (-1)) → Calls Tryz.prog 49 #[v] W fun e w' => e = .returned (.string ⟨#[45, 49]⟩) ∧ Kept W w') := Lib.hid fun W v h => rtext_neg v W h
  have HT2 : Hid (∀ W v, RatAt W v (canR (mkRat 2 3)) → Calls Tryz.prog 49 #[v] W fun e w' => e = .returned (.string ⟨#[50, 47, 51]⟩) ∧ Kept W w') := Lib.hid fun W v h => rtext_frac v _ 2 3 [50] [51] [50, 47, 51] W h (by decide +kernel) (by decide +kernel) (by decide) (by decide) (by decide) (by decide) (by decide) (by decide) (by decide) (by decide) (by decide)
  go_enter Tryz.func10, Tryz.ntmps10
  go_wp2_with fail
  refine (HOF.out _).mono ?_
  rintro e w1 ⟨⟨v1, rfl, hv1⟩, hk1⟩
  obtain ⟨a1, c1, rfl⟩ := hv1.shape
  have HV1 := Lib.hid hv1
  have HK1 := Lib.hid hk1
  rw [show (polT exP20).length = 3 from rfl] at HV1 ⊢
  clear hv1 hk1
  go_wp2_with fail
  refine (HM1.out _).mono ?_
  rintro e w2 ⟨⟨v, rfl, hv⟩, hk⟩
  obtain ⟨n3, l3, m3, a3, c3, b3, d3, w3, rfl, hw, hc, hk2, hr, _⟩ := hv.box
  have HC3 := Lib.hid hc
  have HW3 := Lib.hid hw
  have HV3 := Lib.hid (HV1.out.kept (hk.trans hk2))
  have HK3 := Lib.hid (HK1.out.trans (hk.trans hk2))
  clear hv hk hw hc hk2 hr HV1 HK1
  go_wp2_with fail
  rw [← HW3.out]
  refine (HM2.out _).mono ?_
  rintro e w4 ⟨⟨v, rfl, hv⟩, hk⟩
  obtain ⟨n5, l5, m5, a5, c5, b5, d5, w5, rfl, hw, hc, hk2, hr, _⟩ := hv.box
  have HC5 := Lib.hid hr
  have HW5 := Lib.hid hw
  have HV5 := Lib.hid (HV3.out.kept (hk.trans hk2))
  have HK5 := Lib.hid (HK3.out.trans (hk.trans hk2))
  have KB5 := Lib.hid hk2
  have HS5 : Hid (w5.heap.size = w4.heap.size + 1) := Lib.hid (by rw [hw]; simp)
  obtain ⟨p1, p2, p3, q1, r1, q2, r2, x0, x1, x2, hlx, HXA⟩ := (HC3.out.kept hk).read
  have HRT := Lib.hid (rats_two20 (HXA.out.kept KB5.out) HC5.out)
  obtain ⟨w6, hw6⟩ : ∃ w6, w6 = w5.alloc (.cells #[.bool p1, .slice q1 p2 r1, .slice q2 p3 r2, .bool n5, .slice a5 l5 c5, .slice b5 m5 d5] 38) := ⟨_, rfl⟩
  rw [← hw6] at HRT
  have HK56 : Hid (Kept w5 w6) := Lib.hid (by rw [hw6]; exact (Kept.refl _).alloc _)
  have HV6 := Lib.hid (HV5.out.kept HK56.out)
  have HK6 := Lib.hid (HK5.out.trans HK56.out)
  have HW6 := Lib.hid hw6
  have HEV6 := Lib.hid (HEV.out w5 _ _ rfl w6 HK56.out HRT.out HV6.out)
  rw [HS5.out] at HEV6
  clear hv hk hw hc hk2 hr hw6 HV3 HK3
  go_wp2_with fail
  rw [← HW5.out, ← HW6.out]
  refine HEV6.out.mono ?_
  rintro e w7 ⟨⟨v, rfl, hv⟩, hk⟩
  obtain ⟨n8, l8, m8, a8, c8, b8, d8, w8, rfl, hw, hc, hk2, hr, _⟩ := hv.box
  have HC8 := Lib.hid hc
  have HW8 := Lib.hid hw
  have HK8 := Lib.hid (HK6.out.trans (hk.trans hk2))
  obtain ⟨b, o, y1, y2, y3, e1, f1, e2, f2, rfl, z0, z1, z2, z3, HRP⟩ := (HV6.out.kept hk).term 2 (by decide)
  have HRP8 := Lib.hid (HRP.out.kept hk2)
  have z0' : w7.cell? ⟨b, o + 8, none⟩ = some (.int .i64 3) := z0
  have z1' : w7.cell? ⟨b, o + 9, none⟩ = some (.bool y1) := z1
  have z2' : w7.cell? ⟨b, o + 10, none⟩ = some (.slice e1 y2 f1) := z2
  have z3' : w7.cell? ⟨b, o + 11, none⟩ = some (.slice e2 y3 f2) := z3
  have hbl := World.block_lt_of_cell? _ _ z0'
  clear hv hk hw hc hk2 hr z0 z1 z2 z3 x0 x1 x2 hlx
  go_wp2_with fail
  rw [← HW8.out]
  refine (HT1.out _ _ HRP8.out).mono ?_
  rintro e w9 ⟨rfl, hk9⟩
  have HK9 := Lib.hid (HK8.out.trans hk9)
  obtain ⟨f1', f2', f3', q3, r3, q4, r4, y0, y1', y2', hly, HYT⟩ := (HC8.out.kept hk9).read
  clear hk9 z0' z1' z2' z3'
  go_wp2_with fail
  refine (HT2.out _ _ HYT.out).mono ?_
  rintro e w10 ⟨rfl, hk10⟩
  go_wp2
  go_ret
  exact ⟨rfl, HK9.out.trans hk10⟩
end Go.Proofs.YtpaedhlacbpmpaaGreatDoor

/-
  Plain: small polynomials: what sums, products, derivatives of such ones are.
-/
namespace Go.Proofs.YtpaedhlacbpmpaaGreatDoor
open Go.RowKit

/-- A polynomial that the laws look at. -/
structure Sm (c m : Nat) (p : Pol) : Prop where
  acc : Acc p
  sh : ShP c p
  len : p.length ≤ m
theorem small_pol {w : World} {v : Value} {x : List Trm} (hr : TrmsRaw w v x) (h : NotLg x) (hc : chkT x = 0) : ∃ p, x = polT p ∧ Sm 4 40 p := by
  have hat := hr.small fun t ht => ⟨Nat.le_trans (h.2 t ht).1 (by omega), Nat.le_trans (h.2 t ht).2 (by omega)⟩
  obtain ⟨e, ha⟩ := pol_chkT hat.ok hc
  have hl : (x.map trmP).length = x.length := List.length_map ..
  refine ⟨x.map trmP, e, ha, fun t ht => ?_, ?_⟩
  · have h1 : ((t.1 : Int), canR t.2) ∈ polT (x.map trmP) := List.mem_map.2 ⟨t, ht, rfl⟩
    rw [← e] at h1
    exact h.2 _ h1
  · have := ha.len
    have := h.1
    omega
theorem coef_can_short {c : Nat} {p : Pol} (h : CanP p) (hs : ShP c p) (s : Nat) : (canR (coef p s)).Short c := by
  by_cases hm : ∃ t ∈ p, t.1 = s
  · obtain ⟨t, ht, rfl⟩ := hm
    rw [coef_mem h ht]
    exact hs t ht
  · rw [coef_none fun t ht e => hm ⟨t, ht, e⟩]
    exact ⟨Nat.zero_le _, Nat.zero_le _⟩
theorem norm_sh {c : Nat} {l : Pol} (h : ∀ s, (canR (coef l s)).Short c) : ShP c (normP l) := fun t ht => by
  rw [← coef_mem (normP_can l) ht, normP_coef]
  exact h _
theorem norm_sm {c m d : Nat} {l : Pol} (hb : ∀ t ∈ l, t.1 < 16777216) (hl : l.length ≤ m) (hm : m ≤ 4096) (hs : ShP c l) (hc : 1 ≤ c) (hd : (c + 1) * m + 1 ≤ d) : fitP (normP l) = some (normP l) ∧ Sm d m (normP l) := by
  have h1 := len_normP l
  refine ⟨by unfold fitP; rw [if_pos (by omega)], ⟨normP_can l, by omega, fun t ht => ?_⟩, norm_sh fun s => ?_, by omega⟩
  · obtain ⟨u, hu, e⟩ := mem_normP ht
    rw [e]; exact hb u hu
  · have h2 := coef_short (s := s) hc hs
    have h3 : (c + 1) * l.length ≤ (c + 1) * m := Nat.mul_le_mul_left _ hl
    exact ⟨Nat.le_trans h2.1 (by omega), Nat.le_trans h2.2 (by omega)⟩
theorem Sm.mono {c m d n : Nat} {p : Pol} (h : Sm c m p) (hc : c ≤ d) (hm : m ≤ n) : Sm d n p := ⟨h.acc, h.sh.mono hc, Nat.le_trans h.len hm⟩
theorem Sm.add {c m n d : Nat} {p q : Pol} (hp : Sm c m p) (hq : Sm c n q) (hc : 1 ≤ c) (hm : m + n ≤ 4096) (hd : (c + 1) * (m + n) + 1 ≤ d) : addO p q = some (normP (p ++ q)) ∧ Sm d (m + n) (normP (p ++ q)) :=
  norm_sm (fun t ht => by
    rcases List.mem_append.1 ht with h | h
    · exact hp.acc.bit t h
    · exact hq.acc.bit t h) (by rw [List.length_append]; have := hp.len; have := hq.len; omega) hm (hp.sh.app hq.sh) hc hd
theorem Sm.sub {c m n d : Nat} {p q : Pol} (hp : Sm c m p) (hq : Sm c n q) (hc : 1 ≤ c) (hm : m + n ≤ 4096) (hd : (c + 1) * (m + n) + 1 ≤ d) : subO p q = some (normP (p ++ negP q)) ∧ Sm d (m + n) (normP (p ++ negP q)) :=
  norm_sm (fun t ht => by
    rcases List.mem_append.1 ht with h | h
    · exact hp.acc.bit t h
    · obtain ⟨u, hu, rfl⟩ := mem_negT h
      exact hq.acc.bit u hu) (by rw [List.length_append, negP, List.length_map]; have := hp.len; have := hq.len; omega) hm (hp.sh.app (hq.sh.neg hc)) hc hd
theorem Sm.mul {c m n d : Nat} {p q : Pol} (hp : Sm c m p) (hq : Sm c n q) (hc : 1 ≤ c) (hm : m * n ≤ 4096) (hd : (2 * c + 1) * (m * n) + 1 ≤ d) : mulO p q = some (normP (mulT p q)) ∧ Sm d (m * n) (normP (mulT p q)) := by
  refine norm_sm (c := 2 * c) (fun t ht => ?_) (by rw [mulT_len]; exact Nat.mul_le_mul hp.len hq.len) hm (fun t ht => ?_) (by omega) hd
  · obtain ⟨u, hu, x, hx, rfl⟩ := mem_mulT ht
    exact or_lt24' (hp.acc.bit u hu) (hq.acc.bit x hx)
  · obtain ⟨u, hu, x, hx, rfl⟩ := mem_mulT ht
    have h := short_mul (canR_ok u.2) (canR_ok x.2) (hp.sh u hu) (hq.sh x hx) hc hc
    rw [ratOf_can, ratOf_can] at h
    exact ⟨Nat.le_trans h.1 (by omega), Nat.le_trans h.2 (by omega)⟩
theorem mem_derT {i : Nat} {u : Nat × Rat} : ∀ {p : Pol}, u ∈ derT i p → ∃ t ∈ p, t.1.testBit i = true ∧ u = (sdiff t.1 (2 ^ i), t.2) := by
  intro p
  induction p with
  | nil => intro h; cases h
  | cons t p ih =>
    intro h
    unfold derT at h
    split at h
    · rename_i hb
      rcases List.mem_cons.1 h with e | e
      · exact ⟨t, List.mem_cons_self .., hb, e⟩
      · obtain ⟨x, hx, h2⟩ := ih e
        exact ⟨x, List.mem_cons_of_mem _ hx, h2⟩
    · obtain ⟨x, hx, h2⟩ := ih h
      exact ⟨x, List.mem_cons_of_mem _ hx, h2⟩
theorem mem_resT {i : Nat} {b : Bool} {u : Nat × Rat} : ∀ {p : Pol}, u ∈ resT i b p → ∃ t ∈ p, u = (sdiff t.1 (2 ^ i), t.2) := by
  intro p
  induction p with
  | nil => intro h; cases h
  | cons t p ih =>
    intro h
    unfold resT at h
    split at h
    · rcases List.mem_cons.1 h with e | e
      · exact ⟨t, List.mem_cons_self .., e⟩
      · obtain ⟨x, hx, h2⟩ := ih e
        exact ⟨x, List.mem_cons_of_mem _ hx, h2⟩
    · obtain ⟨x, hx, h2⟩ := ih h
      exact ⟨x, List.mem_cons_of_mem _ hx, h2⟩
theorem sdiff_leP (a i : Nat) : sdiff a (2 ^ i) ≤ a := Nat.le_of_testBit fun j h => by
  rw [sdiff_bit] at h
  simp at h
  exact h.1
theorem Sm.der {c m d : Nat} {p : Pol} (hp : Sm c m p) (i : Nat) (hc : 1 ≤ c) (hm : m ≤ 4096) (hd : (c + 1) * m + 1 ≤ d) : fitP (normP (derT i p)) = some (normP (derT i p)) ∧ Sm d m (normP (derT i p)) :=
  norm_sm (fun t ht => by
    obtain ⟨u, hu, _, rfl⟩ := mem_derT ht
    exact Nat.lt_of_le_of_lt (sdiff_leP _ _) (hp.acc.bit u hu)) (Nat.le_trans (derT_len i p) hp.len) hm (fun t ht => by
    obtain ⟨u, hu, _, rfl⟩ := mem_derT ht
    exact hp.sh u hu) hc hd
theorem Sm.res {c m d : Nat} {p : Pol} (hp : Sm c m p) (i : Nat) (b : Bool) (hc : 1 ≤ c) (hm : m ≤ 4096) (hd : (c + 1) * m + 1 ≤ d) : fitP (normP (resT i b p)) = some (normP (resT i b p)) ∧ Sm d m (normP (resT i b p)) :=
  norm_sm (fun t ht => by
    obtain ⟨u, hu, rfl⟩ := mem_resT ht
    exact Nat.lt_of_le_of_lt (sdiff_leP _ _) (hp.acc.bit u hu)) (Nat.le_trans (resT_len i b p) hp.len) hm (fun t ht => by
    obtain ⟨u, hu, rfl⟩ := mem_resT ht
    exact hp.sh u hu) hc hd
/-- An event times the derivative by it. -/
theorem Sm.back {c m : Nat} {p d : Pol} (i : Nat) (hi : i < 24) (hd : d = normP (derT i p)) (hs : Sm c m d) (hm : m ≤ 4096) : mulO (eventP i) d = some (normP (mulT (eventP i) d)) ∧ Sm c m (normP (mulT (eventP i) d)) := by
  have hoff : ∀ t ∈ d, t.1.testBit i = false := fun t ht => by
    rw [hd] at ht
    obtain ⟨u, hu, e⟩ := mem_normP ht
    obtain ⟨x, _, _, rfl⟩ := mem_derT hu
    rw [e, sdiff_bit, Nat.testBit_two_pow]
    simp
  have hl : (mulT (eventP i) d).length = d.length := by rw [mulT_len]; simp [eventP]
  have h1 := len_normP (mulT (eventP i) d)
  have h2 := hs.len
  refine ⟨by unfold mulO fitP; rw [if_pos (by omega)], ⟨normP_can _, by omega, fun t ht => ?_⟩, norm_sh fun s => ?_, by omega⟩
  · obtain ⟨u, hu, e⟩ := mem_normP ht
    obtain ⟨x, hx, y, hy, rfl⟩ := mem_mulT hu
    have hx2 : x = (2 ^ i, 1) := by simpa [eventP] using hx
    rw [e, hx2]
    refine or_lt24' ?_ (hs.acc.bit y hy)
    show 2 ^ i < 2 ^ 24
    exact Nat.pow_lt_pow_right (by omega) hi
  · have e : coef (mulT (eventP i) d) s = if s.testBit i = true then coef d (sdiff s (2 ^ i)) else 0 := by
      have e1 : mulT (eventP i) d = scaleP (2 ^ i, 1) d := by simp [mulT, eventP]
      rw [e1]
      unfold coef
      rw [sumP_scale', Rat.one_mul]
      have h0 : ∀ q : Pol, sumP (fun _ => (0 : Rat)) q = 0 := by
        intro q
        induction q with
        | nil => rfl
        | cons u q ih => show u.2 * 0 + _ = 0; rw [ih]; grind
      cases hb : s.testBit i with
      | true =>
        rw [if_pos rfl]
        refine sumP_congr fun t ht => ?_
        have hiff : (2 ^ i ||| t.1 = s) ↔ (t.1 = sdiff s (2 ^ i)) := by
          constructor
          · intro h
            rw [← h]
            refine Nat.eq_of_testBit_eq fun j => ?_
            rw [sdiff_bit, Nat.testBit_or, Nat.testBit_two_pow]
            by_cases e : i = j
            · subst e; rw [hoff t ht]; simp
            · simp [e]
          · intro h
            rw [h, sdiff_or hb]
        by_cases h : t.1 = sdiff s (2 ^ i)
        · rw [if_pos h, if_pos (hiff.2 h)]
        · rw [if_neg h, if_neg (fun e => h (hiff.1 e))]
      | false =>
        rw [if_neg (by simp)]
        refine Eq.trans (sumP_congr (ψ := fun _ => 0) fun t ht => ?_) (h0 d)
        show (if 2 ^ i ||| t.1 = s then (1 : Rat) else 0) = 0
        rw [if_neg]
        intro h
        have := congrArg (fun n => n.testBit i) h
        simp only [Nat.testBit_or, Nat.testBit_two_pow, hb] at this
        simp at this
    rw [e]
    split
    · exact coef_can_short hs.acc.can hs.sh _
    · exact ⟨Nat.zero_le _, Nat.zero_le _⟩
theorem Sm.event {i : Nat} (hi : i < 24) : Sm 1 1 (eventP i) := by
  have h := (PolV.event hi).acc
  refine ⟨h, fun t ht => ?_, by simp [eventP]⟩
  have e : t = (2 ^ i, 1) := by simpa [eventP] using ht
  rw [e]
  show (canR 1).Short 1
  exact ⟨by decide +kernel, by decide +kernel⟩
theorem val_sm {c m d : Nat} {p : Pol} (h : Sm c m p) (hc : 1 ≤ c) (hd : (c + 1) * m + 1 ≤ d) (s : Nat) : (canR (valP p s)).Short d := by
  have h1 := val_short (s := s) hc h.sh p.length (Nat.le_refl _)
  rw [List.take_length] at h1
  have h3 : (c + 1) * p.length ≤ (c + 1) * m := Nat.mul_le_mul_left _ h.len
  exact ⟨Nat.le_trans h1.1 (by omega), Nat.le_trans h1.2 (by omega)⟩
end Go.Proofs.YtpaedhlacbpmpaaGreatDoor

/-
  Walk: the law PolynomialSplits returns true, whatever the polynomial and the event. Printed by gen_PH.py.
-/
namespace Go.Proofs.YtpaedhlacbpmpaaGreatDoor
open Go.RowKit

theorem TrmsAt.slc {w : World} {v : Value} {ts : List Trm} (h : TrmsAt w v ts) : ∃ a l c, v = .slice a l c := by obtain ⟨a, c, e⟩ := h.shape; exact ⟨a, _, c, e⟩
set_option maxRecDepth 100000 in
set_option maxHeartbeats 16000000 in
theorem psplits_true (v0 : Value) (x0 : List Trm) (x1 : Int) (w : World) (g0 : TrmsRaw w v0 x0) (g1 : (Lit.int .u8 x1).wf = true) :
    Calls Tryz.prog 5 #[v0, .int .u8 x1] w fun e w' => e = .returned (.bool true) ∧ Kept w w' := by
  have HA : Hid (∀ W, Calls Tryz.prog 10 #[] W fun e w' => e = .returned (.bool true) ∧ Kept W w') := Lib.hid fun W => awake20_ok W
  obtain ⟨i, rfl, hi⟩ : ∃ i : Nat, x1 = i ∧ i < 256 := by
    simp [Lit.wf, IntKind.min, IntKind.max, IntKind.signed, IntKind.bits] at g1
    exact ⟨x1.toNat, by omega, by omega⟩
  obtain ⟨k, hk⟩ : ∃ k, k = i % 24 := ⟨_, rfl⟩
  have hk24 : k < 24 := by omega
  have hmod : (i : Int) % 24 = (k : Int) := by omega
  clear hk g1
  obtain ⟨ta0, tc0, hts0⟩ := g0.shape
  obtain ⟨tl0, htl0⟩ : ∃ l, l = x0.length := ⟨_, rfl⟩
  rw [← htl0] at hts0
  subst hts0
  clear htl0
  have HG0 := Lib.hid g0
  obtain ⟨Q0, hQ0⟩ : ∃ q, q = chkT x0 := ⟨_, rfl⟩
  have HQ0 := Lib.hid hQ0
  have HL : Hid (∀ W, Kept w W → Calls Tryz.prog 11 #[.slice (some ⟨W.heap.size, 0, none⟩) 1 1] (W.alloc (.cells #[.slice ta0 tl0 tc0] 22)) fun e w' => (∃ b, e = .returned (.bool b) ∧ Hid (b = false → NotLg x0)) ∧ Kept W w') := Lib.hid fun W hk => by
    have hka : Kept W (W.alloc (.cells #[.slice ta0 tl0 tc0] 22)) := (Kept.refl _).alloc _
    have h := large20_any [(.slice ta0 tl0 tc0, x0)] W.heap.size (W.alloc (.cells #[.slice ta0 tl0 tc0] 22)) (fun i hi => ?_) 1 rfl (by omega)
    · exact h.mono fun e w' ⟨⟨b, h1, h2⟩, h3⟩ => ⟨⟨b, h1, Lib.hid fun hb => h2 hb (.slice ta0 tl0 tc0, x0) (by simp)⟩, hka.trans h3⟩
    · match i, hi with
      | 0, _ => exact ⟨by simp, g0.kept (hk.trans hka)⟩
  have HCK0 : Hid (NotLg x0 → ∀ W, Kept w W → Calls Tryz.prog 21 #[.slice ta0 tl0 tc0] W fun e w' => e = .returned (errV Q0) ∧ Kept W w') := Lib.hid fun hn W hk => by
    rw [hQ0]
    exact pcheck20_any _ x0 W ((g0.small fun t ht => ⟨Nat.le_trans (hn.2 t ht).1 (by omega), Nat.le_trans (hn.2 t ht).2 (by omega)⟩).kept hk) fun t ht => ⟨Nat.le_trans (hn.2 t ht).1 (by omega), Nat.le_trans (hn.2 t ht).2 (by omega)⟩
  clear g0 hQ0
  go_enter Tryz.func5, Tryz.ntmps5
  go_wp2_with fail
  refine (HA.out _).mono ?_
  rintro e w1 ⟨rfl, hk1⟩
  have HK1 := Lib.hid hk1
  clear hk1
  go_wp2_with fail
  refine (HL.out _ HK1.out).mono ?_
  rintro e w2 ⟨⟨b, rfl, hnl⟩, hk2⟩
  have HK2 := Lib.hid (HK1.out.trans hk2)
  clear hk2
  cases b with
  | true =>
    go_wp2_with fail
    refine (HA.out _).mono ?_
    rintro e wz ⟨rfl, hkz⟩
    go_wp2
    go_ret
    exact ⟨rfl, HK2.out.trans hkz⟩
  | false =>
    have hn := hnl.out rfl
    have HCK := Lib.hid (HCK0.out hn)
    by_cases hq : Q0 = 0
    · obtain ⟨p, hp, hs⟩ := small_pol HG0.out hn (by rw [← HQ0.out]; exact hq)
      subst hq
      rw [errV_zero] at HCK
      have hat := HG0.out.small fun t ht => ⟨Nat.le_trans (hn.2 t ht).1 (by omega), Nat.le_trans (hn.2 t ht).2 (by omega)⟩
      rw [hp] at hat
      have HP := Lib.hid hat
      obtain ⟨D, hD⟩ : ∃ D, D = normP (derT k p) := ⟨_, rfl⟩
      obtain ⟨A, hA⟩ : ∃ A, A = normP (resT k false p) := ⟨_, rfl⟩
      obtain ⟨B, hB⟩ : ∃ B, B = normP (resT k true p) := ⟨_, rfl⟩
      obtain ⟨Y, hY⟩ : ∃ Y, Y = normP (mulT (eventP k) D) := ⟨_, rfl⟩
      have sD := hs.der k (d := 201) (by omega) (by omega) (by omega)
      have sA := hs.res k false (d := 201) (by omega) (by omega) (by omega)
      have sB := hs.res k true (d := 201) (by omega) (by omega) (by omega)
      rw [← hD] at sD
      rw [← hA] at sA
      rw [← hB] at sB
      have sY := Sm.back k hk24 hD sD.2 (by omega)
      rw [← hY] at sY
      have eZ : addO A Y = some p := by
        rw [(sA.2.add sY.2 (d := 20000) (by omega) (by omega) (by omega)).1, hA, hY, hD]
        exact congrArg some (split_pol hs.acc.can k)
      have eW : subO B A = some D := by
        rw [(sB.2.sub sA.2 (d := 20000) (by omega) (by omega) (by omega)).1, hB, hA, hD]
        exact congrArg some (diff_pol p k)
      have HDE : Hid (∀ W, Kept w W → Calls Tryz.prog 27 #[.slice ta0 tl0 tc0, .int .i64 k] W fun e w' => (∃ v', e = .returned (.tuple #[v', .nilIface]) ∧ TrmsAt w' v' (polT D)) ∧ Kept W w') := Lib.hid fun W h => by
        have h1 := pderive_any _ p k W (HP.out.kept h) hs.acc (hs.sh.mono (by omega)) hk24
        rw [← hD, sD.1] at h1
        exact h1
      have HR0 : Hid (∀ W, Kept w W → Calls Tryz.prog 28 #[.slice ta0 tl0 tc0, .int .i64 k, .bool false] W fun e w' => (∃ v', e = .returned (.tuple #[v', .nilIface]) ∧ TrmsAt w' v' (polT A)) ∧ Kept W w') := Lib.hid fun W h => by
        have h1 := prestrict_any _ p k false W (HP.out.kept h) hs.acc (hs.sh.mono (by omega)) hk24
        rw [← hA, sA.1] at h1
        exact h1
      have HR1 : Hid (∀ W, Kept w W → Calls Tryz.prog 28 #[.slice ta0 tl0 tc0, .int .i64 k, .bool true] W fun e w' => (∃ v', e = .returned (.tuple #[v', .nilIface]) ∧ TrmsAt w' v' (polT B)) ∧ Kept W w') := Lib.hid fun W h => by
        have h1 := prestrict_any _ p k true W (HP.out.kept h) hs.acc (hs.sh.mono (by omega)) hk24
        rw [← hB, sB.1] at h1
        exact h1
      have HEV : Hid (∀ W, Calls Tryz.prog 29 #[.int .i64 k] W fun e w' => (∃ v', e = .returned (.tuple #[v', .nilIface]) ∧ TrmsAt w' v' (polT (eventP k))) ∧ Kept W w') := Lib.hid fun W => pevent_any k W hk24
      have sE := Sm.event hk24
      have HMU : Hid (∀ W u1 u2, TrmsAt W u1 (polT (eventP k)) → TrmsAt W u2 (polT D) → Calls Tryz.prog 15 #[u1, u2] W fun e w' => (∃ v', e = .returned (.tuple #[v', .nilIface]) ∧ TrmsAt w' v' (polT Y)) ∧ Kept W w') := Lib.hid fun W u1 u2 k1 k2 => by
        have h1 := pmul_any u1 u2 _ D W k1 k2 sE.acc sD.2.acc (sE.sh.mono (by omega)) (sD.2.sh.mono (by omega))
        rw [sY.1] at h1
        exact h1
      have HAD : Hid (∀ W u1 u2, TrmsAt W u1 (polT A) → TrmsAt W u2 (polT Y) → Calls Tryz.prog 13 #[u1, u2] W fun e w' => (∃ v', e = .returned (.tuple #[v', .nilIface]) ∧ TrmsAt w' v' (polT p)) ∧ Kept W w') := Lib.hid fun W u1 u2 k1 k2 => by
        have h1 := padd_any u1 u2 A Y W k1 k2 sA.2.acc sY.2.acc (sA.2.sh.mono (by omega)) (sY.2.sh.mono (by omega))
        rw [eZ] at h1
        exact h1
      have HSU : Hid (∀ W u1 u2, TrmsAt W u1 (polT B) → TrmsAt W u2 (polT A) → Calls Tryz.prog 14 #[u1, u2] W fun e w' => (∃ v', e = .returned (.tuple #[v', .nilIface]) ∧ TrmsAt w' v' (polT D)) ∧ Kept W w') := Lib.hid fun W u1 u2 k1 k2 => by
        have h1 := psub_any u1 u2 B A W k1 k2 sB.2.acc sA.2.acc (sB.2.sh.mono (by omega)) (sA.2.sh.mono (by omega))
        rw [eW] at h1
        exact h1
      have HT1 : Hid (∀ W u1 u2, TrmsAt W u1 (polT p) → TrmsAt W u2 (polT p) → Calls Tryz.prog 20 #[u1, u2] W fun e w' => e = .returned (.bool true) ∧ Kept W w') := Lib.hid fun W u1 u2 k1 k2 => terms_true u1 u2 _ W k1 k2
      have HT2 : Hid (∀ W u1 u2, TrmsAt W u1 (polT D) → TrmsAt W u2 (polT D) → Calls Tryz.prog 20 #[u1, u2] W fun e w' => e = .returned (.bool true) ∧ Kept W w') := Lib.hid fun W u1 u2 k1 k2 => terms_true u1 u2 _ W k1 k2
      clear hD hA hB hY sD sA sB sY sE eZ eW hs hp hat hn hnl HCK0 HG0 HQ0 hk24
      go_wp2_with fail
      refine (HCK.out _ HK2.out).mono ?_
      rintro e w3 ⟨rfl, hk3⟩
      have HK3 := Lib.hid (HK2.out.trans hk3)
      clear hk3
      go_wp2_with fail
      refine (HDE.out _ HK3.out).mono ?_
      rintro e w4 ⟨⟨v4, rfl, hv⟩, hk⟩
      obtain ⟨a4, l4, c4, rfl⟩ := hv.slc
      have HV4 := Lib.hid hv
      have HK4 := Lib.hid (HK3.out.trans hk)
      clear hv hk
      go_wp2_with fail
      refine (HR0.out _ HK4.out).mono ?_
      rintro e w5 ⟨⟨v5, rfl, hv⟩, hk⟩
      obtain ⟨a5, l5, c5, rfl⟩ := hv.slc
      have HV5 := Lib.hid hv
      have HK5 := Lib.hid (HK4.out.trans hk)
      replace HV4 := Lib.hid (HV4.out.kept hk)
      clear hv hk
      go_wp2_with fail
      refine (HR1.out _ HK5.out).mono ?_
      rintro e w6 ⟨⟨v6, rfl, hv⟩, hk⟩
      obtain ⟨a6, l6, c6, rfl⟩ := hv.slc
      have HV6 := Lib.hid hv
      have HK6 := Lib.hid (HK5.out.trans hk)
      replace HV4 := Lib.hid (HV4.out.kept hk)
      replace HV5 := Lib.hid (HV5.out.kept hk)
      clear hv hk
      go_wp2_with fail
      refine (HEV.out _).mono ?_
      rintro e w7 ⟨⟨v7, rfl, hv⟩, hk⟩
      obtain ⟨a7, l7, c7, rfl⟩ := hv.slc
      have HV7 := Lib.hid hv
      have HK7 := Lib.hid (HK6.out.trans hk)
      replace HV4 := Lib.hid (HV4.out.kept hk)
      replace HV5 := Lib.hid (HV5.out.kept hk)
      replace HV6 := Lib.hid (HV6.out.kept hk)
      clear hv hk
      go_wp2_with fail
      refine (HMU.out _ _ _ HV7.out HV4.out).mono ?_
      rintro e w8 ⟨⟨v8, rfl, hv⟩, hk⟩
      obtain ⟨a8, l8, c8, rfl⟩ := hv.slc
      have HV8 := Lib.hid hv
      have HK8 := Lib.hid (HK7.out.trans hk)
      replace HV4 := Lib.hid (HV4.out.kept hk)
      replace HV5 := Lib.hid (HV5.out.kept hk)
      replace HV6 := Lib.hid (HV6.out.kept hk)
      clear hv hk
      go_wp2_with fail
      refine (HAD.out _ _ _ HV5.out HV8.out).mono ?_
      rintro e w9 ⟨⟨v9, rfl, hv⟩, hk⟩
      obtain ⟨a9, l9, c9, rfl⟩ := hv.slc
      have HV9 := Lib.hid hv
      have HK9 := Lib.hid (HK8.out.trans hk)
      replace HV4 := Lib.hid (HV4.out.kept hk)
      replace HV5 := Lib.hid (HV5.out.kept hk)
      replace HV6 := Lib.hid (HV6.out.kept hk)
      clear hv hk
      go_wp2_with fail
      refine (HSU.out _ _ _ HV6.out HV5.out).mono ?_
      rintro e w10 ⟨⟨v10, rfl, hv⟩, hk⟩
      obtain ⟨a10, l10, c10, rfl⟩ := hv.slc
      have HV10 := Lib.hid hv
      have HK10 := Lib.hid (HK9.out.trans hk)
      replace HV4 := Lib.hid (HV4.out.kept hk)
      replace HV9 := Lib.hid (HV9.out.kept hk)
      clear hv hk
      go_wp2_with fail
      refine (HT1.out _ _ _ HV9.out (HP.out.kept HK10.out)).mono ?_
      rintro e w11 ⟨rfl, hk11⟩
      have HK11 := Lib.hid (HK10.out.trans hk11)
      replace HV10 := Lib.hid (HV10.out.kept hk11)
      replace HV4 := Lib.hid (HV4.out.kept hk11)
      clear hk11
      go_wp2_with fail
      refine (HT2.out _ _ _ HV10.out HV4.out).mono ?_
      rintro e w12 ⟨rfl, hk12⟩
      go_wp2
      go_ret
      exact ⟨rfl, HK11.out.trans hk12⟩
    · rw [errV_pos hq] at HCK
      go_wp2_with fail
      refine (HCK.out _ HK2.out).mono ?_
      rintro e w3 ⟨rfl, hk3⟩
      have HK3 := Lib.hid (HK2.out.trans hk3)
      clear hk3
      go_wp2_with fail
      refine (HA.out _).mono ?_
      rintro e wz ⟨rfl, hkz⟩
      go_wp2
      go_ret
      exact ⟨rfl, HK3.out.trans hkz⟩
end Go.Proofs.YtpaedhlacbpmpaaGreatDoor

/-
  Walk: the law PolynomialHomes returns true, whatever the polynomials and the state. Printed by gen_PH.py.
-/
namespace Go.Proofs.YtpaedhlacbpmpaaGreatDoor
open Go.RowKit

set_option maxRecDepth 100000 in
set_option maxHeartbeats 16000000 in
theorem phomes_true (v0 v1 : Value) (x0 x1 : List Trm) (x2 : Int) (w : World) (g0 : TrmsRaw w v0 x0) (g1 : TrmsRaw w v1 x1) (g2 : (Lit.int .u32 x2).wf = true) :
    Calls Tryz.prog 4 #[v0, v1, .int .u32 x2] w fun e w' => e = .returned (.bool true) ∧ Kept w w' := by
  have HA : Hid (∀ W, Calls Tryz.prog 10 #[] W fun e w' => e = .returned (.bool true) ∧ Kept W w') := Lib.hid fun W => awake20_ok W
  obtain ⟨i, rfl, hi⟩ : ∃ i : Nat, x2 = i ∧ i < 4294967296 := by
    simp [Lit.wf, IntKind.min, IntKind.max, IntKind.signed, IntKind.bits] at g2
    exact ⟨x2.toNat, by omega, by omega⟩
  obtain ⟨s, hs0⟩ : ∃ s, s = i % 16777216 := ⟨_, rfl⟩
  have hs24 : s < 16777216 := by omega
  have hmod : (i : Int) % 16777216 = (s : Int) := by omega
  clear hs0 g2
  obtain ⟨ta0, tc0, hts0⟩ := g0.shape
  obtain ⟨tl0, htl0⟩ : ∃ l, l = x0.length := ⟨_, rfl⟩
  rw [← htl0] at hts0
  subst hts0
  clear htl0
  have HG0 := Lib.hid g0
  obtain ⟨Q0, hQ0⟩ : ∃ q, q = chkT x0 := ⟨_, rfl⟩
  have HQ0 := Lib.hid hQ0
  obtain ⟨ta1, tc1, hts1⟩ := g1.shape
  obtain ⟨tl1, htl1⟩ : ∃ l, l = x1.length := ⟨_, rfl⟩
  rw [← htl1] at hts1
  subst hts1
  clear htl1
  have HG1 := Lib.hid g1
  obtain ⟨Q1, hQ1⟩ : ∃ q, q = chkT x1 := ⟨_, rfl⟩
  have HQ1 := Lib.hid hQ1
  have HL : Hid (∀ W, Kept w W → Calls Tryz.prog 11 #[.slice (some ⟨W.heap.size, 0, none⟩) 2 2] (W.alloc (.cells #[.slice ta0 tl0 tc0, .slice ta1 tl1 tc1] 22)) fun e w' => (∃ b, e = .returned (.bool b) ∧ Hid (b = false → NotLg x0 ∧ NotLg x1)) ∧ Kept W w') := Lib.hid fun W hk => by
    have hka : Kept W (W.alloc (.cells #[.slice ta0 tl0 tc0, .slice ta1 tl1 tc1] 22)) := (Kept.refl _).alloc _
    have h := large20_any [(.slice ta0 tl0 tc0, x0), (.slice ta1 tl1 tc1, x1)] W.heap.size (W.alloc (.cells #[.slice ta0 tl0 tc0, .slice ta1 tl1 tc1] 22)) (fun i hi => ?_) 2 rfl (by omega)
    · exact h.mono fun e w' ⟨⟨b, h1, h2⟩, h3⟩ => ⟨⟨b, h1, Lib.hid fun hb => ⟨h2 hb (.slice ta0 tl0 tc0, x0) (by simp), h2 hb (.slice ta1 tl1 tc1, x1) (by simp)⟩⟩, hka.trans h3⟩
    · match i, hi with
      | 0, _ => exact ⟨by simp, g0.kept (hk.trans hka)⟩
      | 1, _ => exact ⟨by simp, g1.kept (hk.trans hka)⟩
  have HCK0 : Hid (NotLg x0 → ∀ W, Kept w W → Calls Tryz.prog 21 #[.slice ta0 tl0 tc0] W fun e w' => e = .returned (errV Q0) ∧ Kept W w') := Lib.hid fun hn W hk => by
    rw [hQ0]
    exact pcheck20_any _ x0 W ((g0.small fun t ht => ⟨Nat.le_trans (hn.2 t ht).1 (by omega), Nat.le_trans (hn.2 t ht).2 (by omega)⟩).kept hk) fun t ht => ⟨Nat.le_trans (hn.2 t ht).1 (by omega), Nat.le_trans (hn.2 t ht).2 (by omega)⟩
  clear g0 hQ0
  have HCK1 : Hid (NotLg x1 → ∀ W, Kept w W → Calls Tryz.prog 21 #[.slice ta1 tl1 tc1] W fun e w' => e = .returned (errV Q1) ∧ Kept W w') := Lib.hid fun hn W hk => by
    rw [hQ1]
    exact pcheck20_any _ x1 W ((g1.small fun t ht => ⟨Nat.le_trans (hn.2 t ht).1 (by omega), Nat.le_trans (hn.2 t ht).2 (by omega)⟩).kept hk) fun t ht => ⟨Nat.le_trans (hn.2 t ht).1 (by omega), Nat.le_trans (hn.2 t ht).2 (by omega)⟩
  clear g1 hQ1
  go_enter Tryz.func4, Tryz.ntmps4
  go_wp2_with fail
  refine (HA.out _).mono ?_
  rintro e w1 ⟨rfl, hk1⟩
  have HK1 := Lib.hid hk1
  clear hk1
  go_wp2_with fail
  refine (HL.out _ HK1.out).mono ?_
  rintro e w2 ⟨⟨b, rfl, hnl⟩, hk2⟩
  have HK2 := Lib.hid (HK1.out.trans hk2)
  clear hk2
  cases b with
  | true =>
    go_wp2_with fail
    refine (HA.out _).mono ?_
    rintro e wz ⟨rfl, hkz⟩
    go_wp2
    go_ret
    exact ⟨rfl, HK2.out.trans hkz⟩
  | false =>
    have hn := hnl.out rfl
    have HCA := Lib.hid (HCK0.out hn.1)
    have HCB := Lib.hid (HCK1.out hn.2)
    by_cases hq0 : Q0 = 0
    · obtain ⟨p, hp, hsp⟩ := small_pol HG0.out hn.1 (by rw [← HQ0.out]; exact hq0)
      subst hq0
      rw [errV_zero] at HCA
      have hatp := HG0.out.small fun t ht => ⟨Nat.le_trans (hn.1.2 t ht).1 (by omega), Nat.le_trans (hn.1.2 t ht).2 (by omega)⟩
      rw [hp] at hatp
      by_cases hq1 : Q1 = 0
      · obtain ⟨q, hq, hsq⟩ := small_pol HG1.out hn.2 (by rw [← HQ1.out]; exact hq1)
        subst hq1
        rw [errV_zero] at HCB
        have hatq := HG1.out.small fun t ht => ⟨Nat.le_trans (hn.2.2 t ht).1 (by omega), Nat.le_trans (hn.2.2 t ht).2 (by omega)⟩
        rw [hq] at hatq
        have HP := Lib.hid hatp
        have HQ := Lib.hid hatq
        obtain ⟨A, hA⟩ : ∃ A, A = normP (p ++ q) := ⟨_, rfl⟩
        obtain ⟨B, hB⟩ : ∃ B, B = normP (p ++ negP q) := ⟨_, rfl⟩
        obtain ⟨C, hC⟩ : ∃ C, C = normP (mulT p q) := ⟨_, rfl⟩
        have sA := hsp.add hsq (d := 100000) (by omega) (by omega) (by omega)
        have sB := hsp.sub hsq (d := 100000) (by omega) (by omega) (by omega)
        have sC := hsp.mul hsq (d := 100000) (by omega) (by omega) (by omega)
        rw [← hA] at sA
        rw [← hB] at sB
        rw [← hC] at sC
        obtain ⟨X, hX⟩ : ∃ X, X = valP p s := ⟨_, rfl⟩
        obtain ⟨Y, hY⟩ : ∃ Y, Y = valP q s := ⟨_, rfl⟩
        have eA : valP A s = X + Y := by rw [hA, val_add, hX, hY]
        have eB : valP B s = X - Y := by rw [hB, val_sub, hX, hY]
        have eC : valP C s = X * Y := by rw [hC, val_mul, hX, hY]
        have xs := val_sm hsp (d := 201) (by omega) (by omega) s
        have ys := val_sm hsq (d := 201) (by omega) (by omega) s
        rw [← hX] at xs
        rw [← hY] at ys
        have HAD : Hid (∀ W, Kept w W → Calls Tryz.prog 13 #[.slice ta0 tl0 tc0, .slice ta1 tl1 tc1] W fun e w' => (∃ v', e = .returned (.tuple #[v', .nilIface]) ∧ TrmsAt w' v' (polT A)) ∧ Kept W w') := Lib.hid fun W h => by
          have h1 := padd_any _ _ p q W (HP.out.kept h) (HQ.out.kept h) hsp.acc hsq.acc (hsp.sh.mono (by omega)) (hsq.sh.mono (by omega))
          rw [sA.1] at h1
          exact h1
        have HSU : Hid (∀ W, Kept w W → Calls Tryz.prog 14 #[.slice ta0 tl0 tc0, .slice ta1 tl1 tc1] W fun e w' => (∃ v', e = .returned (.tuple #[v', .nilIface]) ∧ TrmsAt w' v' (polT B)) ∧ Kept W w') := Lib.hid fun W h => by
          have h1 := psub_any _ _ p q W (HP.out.kept h) (HQ.out.kept h) hsp.acc hsq.acc (hsp.sh.mono (by omega)) (hsq.sh.mono (by omega))
          rw [sB.1] at h1
          exact h1
        have HMU : Hid (∀ W, Kept w W → Calls Tryz.prog 15 #[.slice ta0 tl0 tc0, .slice ta1 tl1 tc1] W fun e w' => (∃ v', e = .returned (.tuple #[v', .nilIface]) ∧ TrmsAt w' v' (polT C)) ∧ Kept W w') := Lib.hid fun W h => by
          have h1 := pmul_any _ _ p q W (HP.out.kept h) (HQ.out.kept h) hsp.acc hsq.acc (hsp.sh.mono (by omega)) (hsq.sh.mono (by omega))
          rw [sC.1] at h1
          exact h1
        have HKA : Hid (∀ W u, TrmsAt W u (polT A) → Calls Tryz.prog 21 #[u] W fun e w' => e = .returned .nilIface ∧ Kept W w') := Lib.hid fun W u hu => by
          have h1 := pcheck20_any u (polT A) W hu (sA.2.sh.mono (by omega)).t
          rw [chkT_pol sA.2.acc, errV_zero] at h1
          exact h1
        have HKB : Hid (∀ W u, TrmsAt W u (polT B) → Calls Tryz.prog 21 #[u] W fun e w' => e = .returned .nilIface ∧ Kept W w') := Lib.hid fun W u hu => by
          have h1 := pcheck20_any u (polT B) W hu (sB.2.sh.mono (by omega)).t
          rw [chkT_pol sB.2.acc, errV_zero] at h1
          exact h1
        have HKC : Hid (∀ W u, TrmsAt W u (polT C) → Calls Tryz.prog 21 #[u] W fun e w' => e = .returned .nilIface ∧ Kept W w') := Lib.hid fun W u hu => by
          have h1 := pcheck20_any u (polT C) W hu (sC.2.sh.mono (by omega)).t
          rw [chkT_pol sC.2.acc, errV_zero] at h1
          exact h1
        have HVX : Hid (∀ W u, TrmsAt W u (polT p) → Calls Tryz.prog 22 #[u, .int .i64 s] W fun e w' => (∃ v', e = .returned (.tuple #[v', .nilIface]) ∧ RatAt w' v' (canR X)) ∧ Kept W w') := Lib.hid fun W u hu => by
          have h1 := pvalue_any u p s W hu hsp.acc (hsp.sh.mono (by omega)) hs24
          rw [← hX] at h1
          exact h1
        have HVY : Hid (∀ W u, TrmsAt W u (polT q) → Calls Tryz.prog 22 #[u, .int .i64 s] W fun e w' => (∃ v', e = .returned (.tuple #[v', .nilIface]) ∧ RatAt w' v' (canR Y)) ∧ Kept W w') := Lib.hid fun W u hu => by
          have h1 := pvalue_any u q s W hu hsq.acc (hsq.sh.mono (by omega)) hs24
          rw [← hY] at h1
          exact h1
        have HVA : Hid (∀ W u, TrmsAt W u (polT A) → Calls Tryz.prog 22 #[u, .int .i64 s] W fun e w' => (∃ v', e = .returned (.tuple #[v', .nilIface]) ∧ RatAt w' v' (canR (X + Y))) ∧ Kept W w') := Lib.hid fun W u hu => by
          have h1 := pvalue_any u A s W hu sA.2.acc (sA.2.sh.mono (by omega)) hs24
          rw [eA] at h1
          exact h1
        have HVB : Hid (∀ W u, TrmsAt W u (polT B) → Calls Tryz.prog 22 #[u, .int .i64 s] W fun e w' => (∃ v', e = .returned (.tuple #[v', .nilIface]) ∧ RatAt w' v' (canR (X - Y))) ∧ Kept W w') := Lib.hid fun W u hu => by
          have h1 := pvalue_any u B s W hu sB.2.acc (sB.2.sh.mono (by omega)) hs24
          rw [eB] at h1
          exact h1
        have HVC : Hid (∀ W u, TrmsAt W u (polT C) → Calls Tryz.prog 22 #[u, .int .i64 s] W fun e w' => (∃ v', e = .returned (.tuple #[v', .nilIface]) ∧ RatAt w' v' (canR (X * Y))) ∧ Kept W w') := Lib.hid fun W u hu => by
          have h1 := pvalue_any u C s W hu sC.2.acc (sC.2.sh.mono (by omega)) hs24
          rw [eC] at h1
          exact h1
        have HQA : Hid (∀ W u1 u2, RatAt W u1 (canR X) → RatAt W u2 (canR Y) → Calls Tryz.prog 24 #[u1, u2] W fun e w' => (∃ v', e = .returned v' ∧ RatAt w' v' (canR (X + Y))) ∧ Kept W w') := Lib.hid fun W u1 u2 k1 k2 => by
          have h1 := radd_any u1 u2 _ _ W k1 k2 ⟨Nat.le_trans xs.1 (by omega), Nat.le_trans xs.2 (by omega)⟩ ⟨Nat.le_trans ys.1 (by omega), Nat.le_trans ys.2 (by omega)⟩
          rw [ratOf_can, ratOf_can] at h1
          exact h1
        have HQS : Hid (∀ W u1 u2, RatAt W u1 (canR X) → RatAt W u2 (canR Y) → Calls Tryz.prog 25 #[u1, u2] W fun e w' => (∃ v', e = .returned v' ∧ RatAt w' v' (canR (X - Y))) ∧ Kept W w') := Lib.hid fun W u1 u2 k1 k2 => by
          have h1 := rsub_any u1 u2 _ _ W k1 k2 ⟨Nat.le_trans xs.1 (by omega), Nat.le_trans xs.2 (by omega)⟩ ⟨Nat.le_trans ys.1 (by omega), Nat.le_trans ys.2 (by omega)⟩
          rw [ratOf_can, ratOf_can] at h1
          exact h1
        have HQM : Hid (∀ W u1 u2, RatAt W u1 (canR X) → RatAt W u2 (canR Y) → Calls Tryz.prog 26 #[u1, u2] W fun e w' => (∃ v', e = .returned v' ∧ RatAt w' v' (canR (X * Y))) ∧ Kept W w') := Lib.hid fun W u1 u2 k1 k2 => by
          have h1 := rmul_any u1 u2 _ _ W k1 k2 ⟨Nat.le_trans xs.1 (by omega), Nat.le_trans xs.2 (by omega)⟩ ⟨Nat.le_trans ys.1 (by omega), Nat.le_trans ys.2 (by omega)⟩
          rw [ratOf_can, ratOf_can] at h1
          exact h1
        have HC1 : Hid (∀ W u1 u2, RatAt W u1 (canR (X + Y)) → RatAt W u2 (canR (X + Y)) → Calls Tryz.prog 23 #[u1, u2] W fun e w' => e = .returned (.int .i64 0) ∧ Kept W w') := Lib.hid fun W u1 u2 k1 k2 => by
          have z := val_sm sA.2 (d := 170000000) (by omega) (by omega) s
          rw [eA] at z
          have h1 := rcmp_any u1 u2 _ _ W k1 k2 ⟨Nat.le_trans z.1 (by omega), Nat.le_trans z.2 (by omega)⟩ ⟨Nat.le_trans z.1 (by omega), Nat.le_trans z.2 (by omega)⟩
          rw [Rat.sub_self] at h1
          exact h1
        have HC2 : Hid (∀ W u1 u2, RatAt W u1 (canR (X - Y)) → RatAt W u2 (canR (X - Y)) → Calls Tryz.prog 23 #[u1, u2] W fun e w' => e = .returned (.int .i64 0) ∧ Kept W w') := Lib.hid fun W u1 u2 k1 k2 => by
          have z := val_sm sB.2 (d := 170000000) (by omega) (by omega) s
          rw [eB] at z
          have h1 := rcmp_any u1 u2 _ _ W k1 k2 ⟨Nat.le_trans z.1 (by omega), Nat.le_trans z.2 (by omega)⟩ ⟨Nat.le_trans z.1 (by omega), Nat.le_trans z.2 (by omega)⟩
          rw [Rat.sub_self] at h1
          exact h1
        have HC3 : Hid (∀ W u1 u2, RatAt W u1 (canR (X * Y)) → RatAt W u2 (canR (X * Y)) → Calls Tryz.prog 23 #[u1, u2] W fun e w' => e = .returned (.int .i64 0) ∧ Kept W w') := Lib.hid fun W u1 u2 k1 k2 => by
          have z := val_sm sC.2 (d := 170000000) (by omega) (by omega) s
          rw [eC] at z
          have h1 := rcmp_any u1 u2 _ _ W k1 k2 ⟨Nat.le_trans z.1 (by omega), Nat.le_trans z.2 (by omega)⟩ ⟨Nat.le_trans z.1 (by omega), Nat.le_trans z.2 (by omega)⟩
          rw [Rat.sub_self] at h1
          exact h1
        clear hA hB hC sA sB sC hX hY eA eB eC xs ys hsp hsq hp hq hatp hatq hn hnl HCK0 HCK1 HG0 HG1 HQ0 HQ1 hs24
        go_wp2_with fail
        refine (HCA.out _ HK2.out).mono ?_
        rintro e w3 ⟨rfl, hk3⟩
        have HK3 := Lib.hid (HK2.out.trans hk3)
        clear hk3
        go_wp2_with fail
        refine (HCB.out _ HK3.out).mono ?_
        rintro e w4 ⟨rfl, hk4⟩
        have HK4 := Lib.hid (HK3.out.trans hk4)
        clear hk4
        go_wp2_with fail
        refine (HAD.out _ HK4.out).mono ?_
        rintro e w5 ⟨⟨v5, rfl, hv⟩, hk⟩
        obtain ⟨a5, l5, c5, rfl⟩ := hv.slc
        have HV5 := Lib.hid hv
        have HK5 := Lib.hid (HK4.out.trans hk)
        clear hv hk
        go_wp2_with fail
        refine (HSU.out _ HK5.out).mono ?_
        rintro e w6 ⟨⟨v6, rfl, hv⟩, hk⟩
        obtain ⟨a6, l6, c6, rfl⟩ := hv.slc
        have HV6 := Lib.hid hv
        have HK6 := Lib.hid (HK5.out.trans hk)
        replace HV5 := Lib.hid (HV5.out.kept hk)
        clear hv hk
        go_wp2_with fail
        refine (HMU.out _ HK6.out).mono ?_
        rintro e w7 ⟨⟨v7, rfl, hv⟩, hk⟩
        obtain ⟨a7, l7, c7, rfl⟩ := hv.slc
        have HV7 := Lib.hid hv
        have HK7 := Lib.hid (HK6.out.trans hk)
        replace HV5 := Lib.hid (HV5.out.kept hk)
        replace HV6 := Lib.hid (HV6.out.kept hk)
        clear hv hk
        go_wp2_with fail
        refine (HKA.out _ _ HV5.out).mono ?_
        rintro e w8 ⟨rfl, hk⟩
        have HK8 := Lib.hid (HK7.out.trans hk)
        replace HV5 := Lib.hid (HV5.out.kept hk)
        replace HV6 := Lib.hid (HV6.out.kept hk)
        replace HV7 := Lib.hid (HV7.out.kept hk)
        clear hk
        go_wp2_with fail
        refine (HKB.out _ _ HV6.out).mono ?_
        rintro e w9 ⟨rfl, hk⟩
        have HK9 := Lib.hid (HK8.out.trans hk)
        replace HV5 := Lib.hid (HV5.out.kept hk)
        replace HV6 := Lib.hid (HV6.out.kept hk)
        replace HV7 := Lib.hid (HV7.out.kept hk)
        clear hk
        go_wp2_with fail
        refine (HKC.out _ _ HV7.out).mono ?_
        rintro e w10 ⟨rfl, hk⟩
        have HK10 := Lib.hid (HK9.out.trans hk)
        replace HV5 := Lib.hid (HV5.out.kept hk)
        replace HV6 := Lib.hid (HV6.out.kept hk)
        replace HV7 := Lib.hid (HV7.out.kept hk)
        clear hk
        go_wp2_with fail
        refine (HVX.out _ _ (HP.out.kept HK10.out)).mono ?_
        rintro e w11 ⟨⟨v, rfl, hv⟩, hk⟩
        obtain ⟨n11, l11, m11, a11, c11, b11, d11, w12, rfl, hw, hc, hk2, hr, _⟩ := hv.box
        have HC12 := Lib.hid hc
        have HW12 := Lib.hid hw
        have hk3 := hk.trans hk2
        have HK12 := Lib.hid (HK10.out.trans hk3)
        replace HV5 := Lib.hid (HV5.out.kept hk3)
        replace HV6 := Lib.hid (HV6.out.kept hk3)
        replace HV7 := Lib.hid (HV7.out.kept hk3)
        clear hv hk hw hc hk2 hr hk3
        go_wp2_with fail
        rw [← HW12.out]
        refine (HVY.out _ _ (HQ.out.kept HK12.out)).mono ?_
        rintro e w13 ⟨⟨v, rfl, hv⟩, hk⟩
        obtain ⟨n13, l13, m13, a13, c13, b13, d13, w14, rfl, hw, hc, hk2, hr, _⟩ := hv.box
        have HC14 := Lib.hid hc
        have HW14 := Lib.hid hw
        have hk3 := hk.trans hk2
        have HK14 := Lib.hid (HK12.out.trans hk3)
        replace HV5 := Lib.hid (HV5.out.kept hk3)
        replace HV6 := Lib.hid (HV6.out.kept hk3)
        replace HV7 := Lib.hid (HV7.out.kept hk3)
        replace HC12 := Lib.hid (HC12.out.kept hk3)
        clear hv hk hw hc hk2 hr hk3
        go_wp2_with fail
        rw [← HW14.out]
        refine (HVA.out _ _ HV5.out).mono ?_
        rintro e w15 ⟨⟨v, rfl, hv⟩, hk⟩
        obtain ⟨n15, l15, m15, a15, c15, b15, d15, w16, rfl, hw, hc, hk2, hr, _⟩ := hv.box
        have HC16 := Lib.hid hc
        have HW16 := Lib.hid hw
        have hk3 := hk.trans hk2
        have HK16 := Lib.hid (HK14.out.trans hk3)
        replace HV5 := Lib.hid (HV5.out.kept hk3)
        replace HV6 := Lib.hid (HV6.out.kept hk3)
        replace HV7 := Lib.hid (HV7.out.kept hk3)
        replace HC12 := Lib.hid (HC12.out.kept hk3)
        replace HC14 := Lib.hid (HC14.out.kept hk3)
        clear hv hk hw hc hk2 hr hk3
        go_wp2_with fail
        rw [← HW16.out]
        refine (HVB.out _ _ HV6.out).mono ?_
        rintro e w17 ⟨⟨v, rfl, hv⟩, hk⟩
        obtain ⟨n17, l17, m17, a17, c17, b17, d17, w18, rfl, hw, hc, hk2, hr, _⟩ := hv.box
        have HC18 := Lib.hid hc
        have HW18 := Lib.hid hw
        have hk3 := hk.trans hk2
        have HK18 := Lib.hid (HK16.out.trans hk3)
        replace HV7 := Lib.hid (HV7.out.kept hk3)
        replace HC12 := Lib.hid (HC12.out.kept hk3)
        replace HC14 := Lib.hid (HC14.out.kept hk3)
        replace HC16 := Lib.hid (HC16.out.kept hk3)
        clear hv hk hw hc hk2 hr hk3
        go_wp2_with fail
        rw [← HW18.out]
        refine (HVC.out _ _ HV7.out).mono ?_
        rintro e w19 ⟨⟨v, rfl, hv⟩, hk⟩
        obtain ⟨n19, l19, m19, a19, c19, b19, d19, w20, rfl, hw, hc, hk2, hr, _⟩ := hv.box
        have HC20 := Lib.hid hc
        have HW20 := Lib.hid hw
        have hk3 := hk.trans hk2
        have HK20 := Lib.hid (HK18.out.trans hk3)
        replace HC12 := Lib.hid (HC12.out.kept hk3)
        replace HC14 := Lib.hid (HC14.out.kept hk3)
        replace HC16 := Lib.hid (HC16.out.kept hk3)
        replace HC18 := Lib.hid (HC18.out.kept hk3)
        clear hv hk hw hc hk2 hr hk3
        obtain ⟨x1, x2, x3, x4, x5, x6, x7, yx0, yx1, yx2, hlx, HRx⟩ := HC12.out.read
        obtain ⟨y1, y2, y3, y4, y5, y6, y7, yy0, yy1, yy2, hly, HRy⟩ := HC14.out.read
        obtain ⟨r1, r2, r3, r4, r5, r6, r7, yr0, yr1, yr2, hlr, HRr⟩ := HC16.out.read
        obtain ⟨s1, s2, s3, s4, s5, s6, s7, ys0, ys1, ys2, hls, HRs⟩ := HC18.out.read
        obtain ⟨t1, t2, t3, t4, t5, t6, t7, yt0, yt1, yt2, hlt, HRt⟩ := HC20.out.read
        have HCL0 : Hid ((fun W : World => W.cell? ⟨w11.heap.size, 0, none⟩ = some (.bool x1) ∧ W.cell? ⟨w11.heap.size, 1, none⟩ = some (.slice x4 x2 x5) ∧ W.cell? ⟨w11.heap.size, 2, none⟩ = some (.slice x6 x3 x7) ∧ W.cell? ⟨w13.heap.size, 0, none⟩ = some (.bool y1) ∧ W.cell? ⟨w13.heap.size, 1, none⟩ = some (.slice y4 y2 y5) ∧ W.cell? ⟨w13.heap.size, 2, none⟩ = some (.slice y6 y3 y7) ∧ W.cell? ⟨w15.heap.size, 0, none⟩ = some (.bool r1) ∧ W.cell? ⟨w15.heap.size, 1, none⟩ = some (.slice r4 r2 r5) ∧ W.cell? ⟨w15.heap.size, 2, none⟩ = some (.slice r6 r3 r7) ∧ W.cell? ⟨w17.heap.size, 0, none⟩ = some (.bool s1) ∧ W.cell? ⟨w17.heap.size, 1, none⟩ = some (.slice s4 s2 s5) ∧ W.cell? ⟨w17.heap.size, 2, none⟩ = some (.slice s6 s3 s7) ∧ W.cell? ⟨w19.heap.size, 0, none⟩ = some (.bool t1) ∧ W.cell? ⟨w19.heap.size, 1, none⟩ = some (.slice t4 t2 t5) ∧ W.cell? ⟨w19.heap.size, 2, none⟩ = some (.slice t6 t3 t7)) w20) := Lib.hid ⟨yx0, yx1, yx2, yy0, yy1, yy2, yr0, yr1, yr2, ys0, ys1, ys2, yt0, yt1, yt2⟩
        have HSK : Hid (∀ W W' : World, Kept W W' → (fun W : World => W.cell? ⟨w11.heap.size, 0, none⟩ = some (.bool x1) ∧ W.cell? ⟨w11.heap.size, 1, none⟩ = some (.slice x4 x2 x5) ∧ W.cell? ⟨w11.heap.size, 2, none⟩ = some (.slice x6 x3 x7) ∧ W.cell? ⟨w13.heap.size, 0, none⟩ = some (.bool y1) ∧ W.cell? ⟨w13.heap.size, 1, none⟩ = some (.slice y4 y2 y5) ∧ W.cell? ⟨w13.heap.size, 2, none⟩ = some (.slice y6 y3 y7) ∧ W.cell? ⟨w15.heap.size, 0, none⟩ = some (.bool r1) ∧ W.cell? ⟨w15.heap.size, 1, none⟩ = some (.slice r4 r2 r5) ∧ W.cell? ⟨w15.heap.size, 2, none⟩ = some (.slice r6 r3 r7) ∧ W.cell? ⟨w17.heap.size, 0, none⟩ = some (.bool s1) ∧ W.cell? ⟨w17.heap.size, 1, none⟩ = some (.slice s4 s2 s5) ∧ W.cell? ⟨w17.heap.size, 2, none⟩ = some (.slice s6 s3 s7) ∧ W.cell? ⟨w19.heap.size, 0, none⟩ = some (.bool t1) ∧ W.cell? ⟨w19.heap.size, 1, none⟩ = some (.slice t4 t2 t5) ∧ W.cell? ⟨w19.heap.size, 2, none⟩ = some (.slice t6 t3 t7)) W → (fun W : World => W.cell? ⟨w11.heap.size, 0, none⟩ = some (.bool x1) ∧ W.cell? ⟨w11.heap.size, 1, none⟩ = some (.slice x4 x2 x5) ∧ W.cell? ⟨w11.heap.size, 2, none⟩ = some (.slice x6 x3 x7) ∧ W.cell? ⟨w13.heap.size, 0, none⟩ = some (.bool y1) ∧ W.cell? ⟨w13.heap.size, 1, none⟩ = some (.slice y4 y2 y5) ∧ W.cell? ⟨w13.heap.size, 2, none⟩ = some (.slice y6 y3 y7) ∧ W.cell? ⟨w15.heap.size, 0, none⟩ = some (.bool r1) ∧ W.cell? ⟨w15.heap.size, 1, none⟩ = some (.slice r4 r2 r5) ∧ W.cell? ⟨w15.heap.size, 2, none⟩ = some (.slice r6 r3 r7) ∧ W.cell? ⟨w17.heap.size, 0, none⟩ = some (.bool s1) ∧ W.cell? ⟨w17.heap.size, 1, none⟩ = some (.slice s4 s2 s5) ∧ W.cell? ⟨w17.heap.size, 2, none⟩ = some (.slice s6 s3 s7) ∧ W.cell? ⟨w19.heap.size, 0, none⟩ = some (.bool t1) ∧ W.cell? ⟨w19.heap.size, 1, none⟩ = some (.slice t4 t2 t5) ∧ W.cell? ⟨w19.heap.size, 2, none⟩ = some (.slice t6 t3 t7)) W') := Lib.hid fun W W' hk ⟨p0, p1, p2, p3, p4, p5, p6, p7, p8, p9, p10, p11, p12, p13, p14⟩ => ⟨hk.cell p0, hk.cell p1, hk.cell p2, hk.cell p3, hk.cell p4, hk.cell p5, hk.cell p6, hk.cell p7, hk.cell p8, hk.cell p9, hk.cell p10, hk.cell p11, hk.cell p12, hk.cell p13, hk.cell p14⟩
        have HCLd := Lib.hid (HSK.out w20 w20.drew (Kept.refl _).drew HCL0.out)
        go_wp2_with fail
        rw [← HW20.out]
        clear yx0 yx1 yx2 yy0 yy1 yy2 yr0 yr1 yr2 ys0 ys1 ys2 yt0 yt1 yt2
        go_region_held3 (fun W => W.cell? ⟨w11.heap.size, 0, none⟩ = some (.bool x1) ∧ W.cell? ⟨w11.heap.size, 1, none⟩ = some (.slice x4 x2 x5) ∧ W.cell? ⟨w11.heap.size, 2, none⟩ = some (.slice x6 x3 x7) ∧ W.cell? ⟨w13.heap.size, 0, none⟩ = some (.bool y1) ∧ W.cell? ⟨w13.heap.size, 1, none⟩ = some (.slice y4 y2 y5) ∧ W.cell? ⟨w13.heap.size, 2, none⟩ = some (.slice y6 y3 y7) ∧ W.cell? ⟨w15.heap.size, 0, none⟩ = some (.bool r1) ∧ W.cell? ⟨w15.heap.size, 1, none⟩ = some (.slice r4 r2 r5) ∧ W.cell? ⟨w15.heap.size, 2, none⟩ = some (.slice r6 r3 r7) ∧ W.cell? ⟨w17.heap.size, 0, none⟩ = some (.bool s1) ∧ W.cell? ⟨w17.heap.size, 1, none⟩ = some (.slice s4 s2 s5) ∧ W.cell? ⟨w17.heap.size, 2, none⟩ = some (.slice s6 s3 s7) ∧ W.cell? ⟨w19.heap.size, 0, none⟩ = some (.bool t1) ∧ W.cell? ⟨w19.heap.size, 1, none⟩ = some (.slice t4 t2 t5) ∧ W.cell? ⟨w19.heap.size, 2, none⟩ = some (.slice t6 t3 t7))
          (with_reducible first | exact HCL26.out | exact HCL25.out | exact HCL24.out | exact HCL23.out | exact HCL22.out | exact HCL21.out | exact HCLd.out | exact HCL0.out)
          (first
          | (go_at_call 24; (with_reducible refine (HQA.out _ _ _ (HRx.out.kept (Kept.refl w20).drew) (HRy.out.kept (Kept.refl w20).drew)).mono ?_); rintro e w21 ⟨⟨v21, rfl, hv⟩, hk⟩; have K21 := Lib.hid (Kept.trans (Kept.refl w20).drew hk); obtain ⟨f1, f2, f3, f4, f5, f6, f7, rfl⟩ := hv.parts; have HV21 := Lib.hid hv; have HCL21 := Lib.hid (HSK.out _ _ K21.out HCL0.out); clear hv hk)
          | (go_at_call 23; (with_reducible refine (HC1.out _ _ _ (HRr.out.kept K21.out) HV21.out).mono ?_); rintro e w22 ⟨rfl, hk⟩; have K22 := Lib.hid (K21.out.trans hk); have HCL22 := Lib.hid (HSK.out _ _ K22.out HCL0.out); clear hk)
          | (go_at_call 25; (with_reducible refine (HQS.out _ _ _ (HRx.out.kept K22.out) (HRy.out.kept K22.out)).mono ?_); rintro e w23 ⟨⟨v23, rfl, hv⟩, hk⟩; have K23 := Lib.hid (Kept.trans K22.out hk); obtain ⟨f1, f2, f3, f4, f5, f6, f7, rfl⟩ := hv.parts; have HV23 := Lib.hid hv; have HCL23 := Lib.hid (HSK.out _ _ K23.out HCL0.out); clear hv hk)
          | (go_at_call 23; (with_reducible refine (HC2.out _ _ _ (HRs.out.kept K23.out) HV23.out).mono ?_); rintro e w24 ⟨rfl, hk⟩; have K24 := Lib.hid (K23.out.trans hk); have HCL24 := Lib.hid (HSK.out _ _ K24.out HCL0.out); clear hk)
          | (go_at_call 26; (with_reducible refine (HQM.out _ _ _ (HRx.out.kept K24.out) (HRy.out.kept K24.out)).mono ?_); rintro e w25 ⟨⟨v25, rfl, hv⟩, hk⟩; have K25 := Lib.hid (Kept.trans K24.out hk); obtain ⟨f1, f2, f3, f4, f5, f6, f7, rfl⟩ := hv.parts; have HV25 := Lib.hid hv; have HCL25 := Lib.hid (HSK.out _ _ K25.out HCL0.out); clear hv hk)
          | (go_at_call 23; (with_reducible refine (HC3.out _ _ _ (HRt.out.kept K25.out) HV25.out).mono ?_); rintro e w26 ⟨rfl, hk⟩; have K26 := Lib.hid (K25.out.trans hk); have HCL26 := Lib.hid (HSK.out _ _ K26.out HCL0.out); clear hk))
        go_wp2
        go_ret
        exact ⟨rfl, HK20.out.trans K26.out⟩
      · rw [errV_pos hq1] at HCB
        go_wp2_with fail
        refine (HCA.out _ HK2.out).mono ?_
        rintro e w3 ⟨rfl, hk3⟩
        have HK3 := Lib.hid (HK2.out.trans hk3)
        clear hk3
        go_wp2_with fail
        refine (HCB.out _ HK3.out).mono ?_
        rintro e w4 ⟨rfl, hk4⟩
        have HK4 := Lib.hid (HK3.out.trans hk4)
        clear hk4
        go_wp2_with fail
        refine (HA.out _).mono ?_
        rintro e wz ⟨rfl, hkz⟩
        go_wp2
        go_ret
        exact ⟨rfl, HK4.out.trans hkz⟩
    · rw [errV_pos hq0] at HCA
      go_wp2_with fail
      refine (HCA.out _ HK2.out).mono ?_
      rintro e w3 ⟨rfl, hk3⟩
      have HK3 := Lib.hid (HK2.out.trans hk3)
      clear hk3
      go_wp2_with fail
      refine (HA.out _).mono ?_
      rintro e wz ⟨rfl, hkz⟩
      go_wp2
      go_ret
      exact ⟨rfl, HK3.out.trans hkz⟩
end Go.Proofs.YtpaedhlacbpmpaaGreatDoor

/-
  A term in a box of the call's own; parts of lists of terms; plain: plus by the place.
-/
namespace Go.Proofs.YtpaedhlacbpmpaaGreatDoor
open Go.RowKit

theorem plus_at (s : Nat) (c : Rat) : ∀ (p : Pol) (j : Nat), j ≤ p.length → (∀ i (h : i < p.length), i < j → ltK p[i].1 s) → (∀ h : j < p.length, ¬ ltK p[j].1 s) →
    plusP p (s, c) = if _h : j < p.length ∧ (p.getD j (0, 0)).1 = s then p.take j ++ ((if c + (p.getD j (0, 0)).2 = 0 then [] else [(s, c + (p.getD j (0, 0)).2)]) ++ p.drop (j + 1)) else p.take j ++ ((if c = 0 then [] else [(s, c)]) ++ p.drop j) := by
  intro p
  induction p with
  | nil =>
    intro j hj _ _
    have : j = 0 := by simpa using hj
    subst this
    rw [dif_neg (by simp)]
    unfold plusP
    simp
  | cons u p ih =>
    intro j hj h1 h2
    cases j with
    | zero =>
      have h3 := h2 (by simp)
      simp only [List.getElem_cons_zero] at h3
      unfold plusP
      rw [if_neg h3]
      by_cases e : u.1 = s
      · rw [if_pos e, dif_pos ⟨by simp, by simpa using e⟩]
        simp only [List.getD_cons_zero, List.take_zero, List.nil_append, List.drop_succ_cons, List.drop_zero]
        split <;> simp
      · rw [if_neg e, dif_neg (fun h => e (by simpa using h.2))]
        simp only [List.take_zero, List.nil_append, List.drop_zero]
        split <;> simp
    | succ j =>
      have h3 := h1 0 (by simp) (by omega)
      simp only [List.getElem_cons_zero] at h3
      have hi := ih j (by simpa using hj) (fun i h hij => by have := h1 (i + 1) (by simpa using h) (by omega); simpa using this) (fun h => by have := h2 (by simpa using h); simpa using this)
      unfold plusP
      rw [if_pos h3, hi]
      simp only [List.getD_cons_succ, List.length_cons, List.take_succ_cons, List.drop_succ_cons]
      by_cases e : j < p.length ∧ (p.getD j (0, 0)).1 = s
      · rw [dif_pos e, dif_pos ⟨by omega, e.2⟩]
        rfl
      · rw [dif_neg e, dif_neg (fun h => e ⟨by omega, h.2⟩)]
        rfl
theorem TrmsAt.take {w : World} {a : Option Addr} {n c : Nat} {ts : List Trm} (h : TrmsAt w (.slice a n c) ts) (k : Nat) (hk : k ≤ n) : TrmsAt w (.slice a k c) (ts.take k) := by
  obtain ⟨a', c', e, ⟨h1, h1'⟩, h2, h3⟩ := h
  simp only [Value.slice.injEq] at e
  obtain ⟨rfl, rfl, rfl⟩ := e
  have hl : (ts.take k).length = k := by rw [List.length_take]; omega
  refine ⟨a, c, by rw [hl], ⟨by omega, h1'⟩, by omega, fun i hi => ?_⟩
  have hi2 : i < ts.length := by omega
  have e : (ts.take k)[i] = ts[i] := by simp
  rw [e]
  exact h3 i hi2
theorem TrmsAt.drop {w : World} {b o n c : Nat} {ts : List Trm} (h : TrmsAt w (.slice (some ⟨b, o, none⟩) n c) ts) (k : Nat) (hk : k ≤ n) : TrmsAt w (.slice (some ⟨b, o + k * 4, none⟩) (n - k) (c - k)) (ts.drop k) := by
  obtain ⟨a', c', e, ⟨h1, h1'⟩, h2, h3⟩ := h
  simp only [Value.slice.injEq] at e
  obtain ⟨rfl, rfl, rfl⟩ := e
  have hl : (ts.drop k).length = ts.length - k := List.length_drop ..
  refine ⟨_, c - k, by rw [hl], ⟨by omega, fun h => by cases h⟩, by omega, fun i hi => ?_⟩
  have hi2 : k + i < ts.length := by omega
  obtain ⟨b', o', u1, u2, he, h5, h6, h7⟩ := h3 (k + i) hi2
  cases he
  have e : (ts.drop k)[i] = ts[k + i] := by simp
  rw [e]
  exact ⟨b, _, u1, u2, rfl, by rw [show o + k * 4 + i * 4 = o + (k + i) * 4 by omega]; exact h5, h6, h7⟩
theorem TrmsAt.none (w : World) (a : Option Addr) (c : Nat) (h : a = none → c = 0) : TrmsAt w (.slice a 0 c) [] := ⟨a, c, rfl, ⟨by simp, h⟩, by simp, fun i hi => by simp at hi⟩
/-- A term of the call's own. -/
def TBox (w : World) (g s : Nat) (R : Rw) : Prop := ∃ n a1 l1 c1 a2 l2 c2, RowAt w g 83 [.int .i64 s, .bool n, .slice a1 l1 c1, .slice a2 l2 c2] ∧ NoW w g ∧ RatAt w (.agg #[.bool n, .slice a1 l1 c1, .slice a2 l2 c2]) R
theorem TBox.kept {w w' : World} {g s : Nat} {R : Rw} (h : TBox w g s R) (hk : Kept w w') : TBox w' g s R := by
  obtain ⟨n, a1, l1, c1, a2, l2, c2, h1, h2, h3⟩ := h
  exact ⟨n, a1, l1, c1, a2, l2, c2, h1.kept hk, h2.same (hk.block g h1.lt), h3.kept hk⟩
theorem TBox.lt {w : World} {g s : Nat} {R : Rw} (h : TBox w g s R) : g < w.heap.size := by obtain ⟨_, _, _, _, _, _, _, h1, _⟩ := h; exact h1.lt
theorem TBox.noW {w : World} {g s : Nat} {R : Rw} (h : TBox w g s R) : NoW w g := by obtain ⟨_, _, _, _, _, _, _, _, h1, _⟩ := h; exact h1
theorem TBox.made {w : World} {s : Nat} {n : Bool} {a1 a2 : Option Addr} {l1 c1 l2 c2 : Nat} {R : Rw} (h : RatAt w (.agg #[.bool n, .slice a1 l1 c1, .slice a2 l2 c2]) R) : TBox (w.alloc (.cells #[.int .i64 s, .bool n, .slice a1 l1 c1, .slice a2 l2 c2] 83)) w.heap.size s R :=
  ⟨n, a1, l1, c1, a2, l2, c2, RowAt.made w #[.int .i64 s, .bool n, .slice a1 l1 c1, .slice a2 l2 c2] 83, noW_new w _ _ (fun u hu x e => by simp at hu; rcases hu with rfl | rfl | rfl | rfl <;> cases e), h.kept ((Kept.refl _).alloc _)⟩
/-- A term that is read. -/
theorem TBox.read {w : World} {g s : Nat} {R : Rw} (h : TBox w g s R) : ∃ n l1 l2 a1 c1 a2 c2, w.cell? ⟨g, 0, none⟩ = some (.int .i64 s) ∧ w.cell? ⟨g, 1, none⟩ = some (.bool n) ∧ w.cell? ⟨g, 2, none⟩ = some (.slice a1 l1 c1) ∧ w.cell? ⟨g, 3, none⟩ = some (.slice a2 l2 c2) ∧ g < w.heap.size ∧
    Hid (RatAt w (.agg #[.bool n, .slice a1 l1 c1, .slice a2 l2 c2]) R) := by
  obtain ⟨n, a1, l1, c1, a2, l2, c2, h1, h2, h3⟩ := h
  obtain ⟨x0, x1, x2, x3⟩ := trm4_at h1
  exact ⟨n, l1, l2, a1, c1, a2, c2, x0, x1, x2, x3, h1.lt, Lib.hid h3⟩
theorem noW_setP {w : World} {g i : Nat} {u : Value} (h : NoW w g) (hu : NotW u) : NoW (w.setCell ⟨g, i, none⟩ u) g := by
  intro cur e fr h2 x hx
  cases hg : w.heap[g]? with
  | none => simp [World.setCell, Array.getElem?_modify, hg] at h2
  | some o =>
    cases o with
    | cells c e2 f2 =>
      simp [World.setCell, Array.getElem?_modify, hg] at h2
      obtain ⟨rfl, _, _⟩ := h2
      rw [Array.toList_setIfInBounds] at hx
      rcases List.mem_or_eq_of_mem_set hx with h3 | h3
      · exact h c e2 f2 hg x h3
      · rw [h3]; exact hu
    | _ => simp [World.setCell, Array.getElem?_modify, hg] at h2
/-- A fraction that is stored into a term of the call's own. -/
theorem TBox.save {w : World} {g s : Nat} {v : Value} {R R' : Rw} (h : TBox w g s R) (hv : RatAt w v R') : ∃ n l m a1 c1 a2 c2 w', v = .agg #[.bool n, .slice a1 l c1, .slice a2 m c2] ∧
    w' = ((w.setCell ⟨g, 1, none⟩ (.bool n)).setCell ⟨g, 2, none⟩ (.slice a1 l c1)).setCell ⟨g, 3, none⟩ (.slice a2 m c2) ∧
    (w.frozen? ⟨g, 1, none⟩ = false ∧ w.frozen? ⟨g, 2, none⟩ = false ∧ w.frozen? ⟨g, 3, none⟩ = false) ∧ Hid (TBox w' g s R') ∧ Hid (OnlyAt g w w') := by
  obtain ⟨n0, a10, l10, c10, a20, l20, c20, h1, h2, h3⟩ := h
  obtain ⟨u1, u2, rfl, k1, k2⟩ := hv
  obtain ⟨a1, c1, rfl⟩ := k1.shape
  obtain ⟨a2, c2, rfl⟩ := k2.shape
  obtain ⟨w', hw'⟩ : ∃ w', w' = ((w.setCell ⟨g, 1, none⟩ (.bool R'.neg)).setCell ⟨g, 2, none⟩ (.slice a1 R'.num.length c1)).setCell ⟨g, 3, none⟩ (.slice a2 R'.den.length c2) := ⟨_, rfl⟩
  have hO : OnlyAt g w w' := by rw [hw']; exact (((OnlyAt.refl g w).store 1 _).store 2 _).store 3 _
  have hR : RowAt w' g 83 [.int .i64 s, .bool R'.neg, .slice a1 R'.num.length c1, .slice a2 R'.den.length c2] := by
    rw [hw']
    exact ((h1.store 1 (.bool R'.neg)).store 2 (.slice a1 R'.num.length c1)).store 3 (.slice a2 R'.den.length c2)
  have hr : ∀ k, some g = some k → NoW w k := fun k hk => by cases hk; exact h2
  have ho : ∀ k, k < w.heap.size → some k ≠ some g → w'.heap[k]? = w.heap[k]? := fun k hk hne => hO.block k hk fun e => hne (by rw [e])
  have hN : NoW w' g := by rw [hw']; exact noW_setP (noW_setP (noW_setP h2 (fun x e => by cases e)) (fun x e => by cases e)) (fun x e => by cases e)
  exact ⟨_, _, _, a1, c1, a2, c2, w', rfl, hw', ⟨h1.free 1, h1.free 2, h1.free 3⟩, Lib.hid ⟨_, _, _, _, _, _, _, hR, hN, _, _, rfl, k1.only hr ho, k2.only hr ho⟩, Lib.hid hO⟩
end Go.Proofs.YtpaedhlacbpmpaaGreatDoor

/-
  Arguments that are lists of ints, of cubes, of fractions; laws of such arguments: from their walks to their rows' steps.
-/
namespace Go.Proofs.YtpaedhlacbpmpaaGreatDoor
open Go.RowKit Go.ChangeShapes Go.WideShapes Go.ChangeAt Go.Joins Go.Deep

/-- Cubes that can be read, however many. -/
def CbsRaw (w : World) (v : Value) (L : List (Int × Int)) : Prop :=
  ∃ (a : Option Addr) (c : Nat), v = .slice a L.length c ∧ (L.length ≤ c ∧ (a = none → c = 0)) ∧ L.length ≤ 140737488355328 ∧
    ∀ i (h : i < L.length), ∃ b o, a = some ⟨b, o, none⟩ ∧ w.rangeAt b (o + i * 2) (ccells L[i])
section
variable {H : Type} {enc : TypeId × Value → H} {W : World} {base : Nat}
set_option maxRecDepth 100000 in
theorem rats_arg {v : Value} {d : DataW H} {p : List MemPlace} (hv : Value.okWide Tryz.prog W .any base 55 v) (hb : ∀ n ∈ d.weights Tryz.prog 55, n ≤ reachBytes)
    (h : DataW.Trod enc Tryz.prog W 0 (fun _ => true) true 55 v d p) : ∃ xs : List Rw, RatsRaw W v xs := by
  obtain ⟨fuel, h1f⟩ := h
  obtain ⟨u, xs, e3, hps⟩ := rats_open hb h1f
  obtain ⟨a, c, rfl, _⟩ := id hps
  obtain ⟨a2, n2, c2, h5⟩ := okWide_slice Tryz.underlying55 hv
  subst h5
  have e4 : Value.slice a xs.length c = .slice a2 n2 c2 := by simpa [Value.cells] using e3.symm
  rw [← e4]
  exact ⟨xs, hps⟩
end
end Go.Proofs.YtpaedhlacbpmpaaGreatDoor

/-
  Lists of terms, a fraction, a pair of ints that came in; lifts of laws of such arguments. Printed by gen_EL3.py.
-/
namespace Go.Proofs.YtpaedhlacbpmpaaGreatDoor
open Go.RowKit Go.ChangeShapes Go.WideShapes Go.ChangeAt Go.Joins Go.Deep

theorem cells_term : Tryz.prog.cellsOf 83 = 4 := by kernel_rfl
theorem bytes_term : Tryz.prog.bytesOf 83 = 64 := by kernel_rfl
theorem cells_two : Tryz.prog.cellsOf 56 = 2 := by kernel_rfl
theorem okWide_arr {P : Program} {w : World} {r : Reach} {base : Nat} {t e : TypeId} {n : Nat} {v : Value} (ht : P.underlying t = some (.array n e)) (h : Value.okWide P w r base t v) : ∃ cs, v = .agg cs ∧ cs.size = P.cellsOf t := by
  simp only [Value.okWide, ht] at h
  obtain ⟨cs, h1, h2, _⟩ := h
  exact ⟨cs, h1, h2⟩
section
variable {H : Type} {enc : TypeId × Value → H} {W : World} {base : Nat}
set_option maxRecDepth 100000 in
/-- A fraction's cells, read. -/
theorem rat_cells {fuel : Nat} {c0 c1 c2 : Value} {x : DataW H × List MemPlace} (hb : ∀ n ∈ x.1.weights Tryz.prog 38, n ≤ reachBytes)
    (h : DataW.trod enc Tryz.prog W base (fun _ => true) true fuel 38 [c0, c1, c2] = some x) : ∃ (n : Bool) (xs ys : List Nat), c0 = .bool n ∧ WdRaw W c1 xs ∧ WdRaw W c2 ys := by
  obtain ⟨z0, z1, z2, n', hz, _, g0, g1, g2⟩ := trod_struct3 Tryz.underlying38 h
  simp only [cells_bool, cells_words, List.drop_zero, List.drop_succ_cons, List.take_succ_cons, List.take_zero] at g0 g1 g2
  obtain ⟨ng, e1, _⟩ := DataW.trod_bool Tryz.underlying4 g0
  have hd1 : x.1 = .agg [z0.1, z1.1, z2.1] := by rw [hz]
  obtain ⟨u1, xs1, e2, hu1⟩ := words_open (fun n hn => hb n (by
    rw [hd1]
    simp only [DataW.weights, Tryz.underlying38]
    simp only [List.map_cons, DataW.weightsEach, List.mem_append]
    exact .inr (.inl hn))) g1
  obtain ⟨u2, xs2, e3, hu2⟩ := words_open (fun n hn => hb n (by
    rw [hd1]
    simp only [DataW.weights, Tryz.underlying38]
    simp only [List.map_cons, DataW.weightsEach, List.mem_append]
    exact .inr (.inr (.inl hn)))) g2
  simp at e1 e2 e3
  subst e1 e2 e3
  exact ⟨ng, xs1, xs2, rfl, hu1, hu2⟩
set_option maxRecDepth 100000 in
theorem rat_arg {v : Value} {d : DataW H} {p : List MemPlace} (hv : Value.okWide Tryz.prog W .any base 38 v) (hb : ∀ n ∈ d.weights Tryz.prog 38, n ≤ reachBytes)
    (h : DataW.Trod enc Tryz.prog W 0 (fun _ => true) true 38 v d p) : ∃ (r : Rw) (u1 u2 : Value), v = .agg #[.bool r.neg, u1, u2] ∧ WdRaw W u1 r.num ∧ WdRaw W u2 r.den := by
  obtain ⟨cs, rfl, hsz⟩ := okWide_struct Tryz.underlying38 hv
  obtain ⟨c0, c1, c2, rfl⟩ := Go.Joins.array3 (hsz.trans cells_rat)
  obtain ⟨fuel, hf⟩ := h
  obtain ⟨n, xs, ys, rfl, h1, h2⟩ := rat_cells (x := (d, p)) hb (by simpa [Value.cells] using hf)
  exact ⟨⟨n, xs, ys⟩, c1, c2, rfl, h1, h2⟩
set_option maxRecDepth 100000 in
theorem two_arg {v : Value} {d : DataW H} {p : List MemPlace} (hv : Value.okWide Tryz.prog W .any base 56 v)
    (h : DataW.Trod enc Tryz.prog W 0 (fun _ => true) true 56 v d p) : ∃ (x y : Int), v = .agg #[.int .i64 x, .int .i64 y] ∧ (Lit.int .i64 x).wf = true ∧ (Lit.int .i64 y).wf = true := by
  obtain ⟨cs, rfl, hsz⟩ := okWide_arr Tryz.underlying56 hv
  obtain ⟨c0, c1, rfl⟩ := Go.Joins.array2 (hsz.trans cells_two)
  obtain ⟨fuel, hf⟩ := h
  obtain ⟨xs, m, _, _, _, hl, he⟩ := DataW.trod_array Tryz.underlying56 hf
  have e0 := he 0 (by omega)
  have e1 := he 1 (by omega)
  have k0 : Tryz.prog.cellsOf 3 = 1 := cells_int
  simp only [Value.cells, k0, List.drop_zero, List.drop_succ_cons, List.take_succ_cons, List.take_zero, Nat.zero_mul, Nat.one_mul] at e0 e1
  rw [List.getElem?_eq_getElem (by omega)] at e0 e1
  obtain ⟨x0, q0, _, w0⟩ := DataW.trod_int Tryz.underlying3 e0
  obtain ⟨x1, q1, _, w1⟩ := DataW.trod_int Tryz.underlying3 e1
  simp at q0 q1
  subst q0 q1
  exact ⟨x0, x1, rfl, w0, w1⟩
set_option maxRecDepth 100000 in
theorem terms_open {fuel : Nat} {cs : List Value} {x : DataW H × List MemPlace} (hb : ∀ n ∈ x.1.weights Tryz.prog 22, n ≤ reachBytes)
    (h : DataW.trod enc Tryz.prog W base (fun _ => true) true fuel 22 cs = some x) : ∃ u ps, cs = [u] ∧ TrmsRaw W u ps := by
  rcases open_slice Tryz.underlying22 h with ⟨rfl, rfl⟩ | ⟨a, len, cap, m, n, D, Pl, rfl, _, hl, hm, hmm, rfl, hx⟩
  · exact ⟨_, [], rfl, none, 0, rfl, ⟨by simp, fun _ => rfl⟩, by simp, fun i h => by simp at h⟩
  · simp only [if_true] at hmm
    have hmc := hmm.symm
    subst hmc
    have hbb := hb (cap * 64) (by
      simp only [DataW.weights, Tryz.underlying22, bytes_term, List.mem_cons]
      refine .inl ?_
      simp; omega)
    simp [reachBytes] at hbb
    have each : ∀ i, i < len → ∃ y : Trm, ∃ b o u1 u2, a = ⟨b, o, none⟩ ∧ W.rangeAt b (o + i * 4) [.int .i64 y.1, .bool y.2.neg, u1, u2] ∧ WdRaw W u1 y.2.num ∧ WdRaw W u2 y.2.den ∧ (Lit.int .i64 y.1).wf = true := by
      intro i hi
      obtain ⟨cs', hc, ht⟩ := hx i (by omega)
      rw [cells_term] at hc
      obtain ⟨_, hcl, hat⟩ := World.cells?_some hc
      obtain ⟨y0, y1, n', hy, hlen, g0, g1⟩ := trod_struct2 Tryz.underlying83 ht
      match cs', hcl with
      | [c0, c1, c2, c3], _ =>
        have q0 := hat 0 (by omega)
        have q1 := hat 1 (by omega)
        have q2 := hat 2 (by omega)
        have q3 := hat 3 (by omega)
        simp only [List.getElem?_cons_zero, List.getElem?_cons_succ] at q0 q1 q2 q3
        have k0 : Tryz.prog.cellsOf 3 = 1 := cells_int
        simp only [k0, cells_rat, List.drop_zero, List.drop_succ_cons, List.take_succ_cons, List.take_zero] at g0 g1
        obtain ⟨s, e0, hy0, ws⟩ := DataW.trod_int Tryz.underlying3 g0
        simp at e0
        subst e0
        have hdi : D i = .agg [y0.1, y1.1] := by simpa using congrArg Prod.fst hy
        obtain ⟨ng, xs1, xs2, rfl, hu1, hu2⟩ := rat_cells (fun n hn => hb n (by
          simp only [DataW.weights, Tryz.underlying22, List.mem_cons, List.mem_append]
          refine .inr (.inl (weightsAll_mem (d := D i) (List.mem_map.2 ⟨i, by simpa using hi, rfl⟩) n ?_))
          rw [hdi]
          simp only [DataW.weights, Tryz.underlying83]
          simp only [List.map_cons, DataW.weightsEach, List.mem_append]
          exact .inr (.inl hn))) g1
        obtain ⟨b, o, spot⟩ := a
        have hspot : spot = none := by
          obtain ⟨cs0, hc0, _⟩ := hx 0 (by omega)
          rw [cells_term] at hc0
          obtain ⟨_, hcl0, hat0⟩ := World.cells?_some hc0
          have h1 := hat0 0 (by omega)
          rw [List.getElem?_eq_getElem (by omega)] at h1
          exact World.cell?_spot (a := ⟨b, o, spot⟩) (by simpa [Addr.add] using h1)
        subst hspot
        refine ⟨(s, ⟨ng, xs1, xs2⟩), b, o, c2, c3, rfl, ?_, hu1, hu2, ws⟩
        intro j v hj
        match j, hj with
        | 0, hj => simp at hj; subst hj; rw [← q0, addP, addP]
        | 1, hj => simp at hj; subst hj; rw [← q1, addP, addP]
        | 2, hj => simp at hj; subst hj; rw [← q2, addP, addP]
        | 3, hj => simp at hj; subst hj; rw [← q3, addP, addP]
    obtain ⟨g, hg⟩ := choose_lt each
    refine ⟨_, (List.range len).map g, rfl, some a, cap, by simp, ⟨by simp; omega, fun h => by cases h⟩, by simp; omega, fun i hi => ?_⟩
    simp only [List.length_map, List.length_range] at hi
    obtain ⟨b, o, u1, u2, rfl, h1, h2, h3, h4⟩ := hg i hi
    exact ⟨b, o, u1, u2, rfl, by simpa using h1, by simpa using h2, by simpa using h3, by simpa using h4⟩
set_option maxRecDepth 100000 in
theorem terms_arg {v : Value} {d : DataW H} {p : List MemPlace} (hv : Value.okWide Tryz.prog W .any base 22 v) (hb : ∀ n ∈ d.weights Tryz.prog 22, n ≤ reachBytes)
    (h : DataW.Trod enc Tryz.prog W 0 (fun _ => true) true 22 v d p) : ∃ xs : List Trm, TrmsRaw W v xs := by
  obtain ⟨fuel, h1f⟩ := h
  obtain ⟨u, xs, e3, hps⟩ := terms_open hb h1f
  obtain ⟨a, c, rfl, _⟩ := id hps
  obtain ⟨a2, n2, c2, h5⟩ := okWide_slice Tryz.underlying22 hv
  subst h5
  have e4 : Value.slice a xs.length c = .slice a2 n2 c2 := by simpa [Value.cells] using e3.symm
  rw [← e4]
  exact ⟨xs, hps⟩
end
set_option maxRecDepth 100000 in
theorem liftTT {s : ChangeSpec} (F : FuncId) (fn : Func) (hs1 : s.vars = []) (hs2 : ∀ (H : Type) (d0 d1 : DataW H), s.fn H [d0, d1] = { results := [.lit (.bool true)], args := [d0, d1] })
    (hp : fn.params = #[22, 22]) (hr : fn.resultTypes = #[4])
    (walk : ∀ (W : World) (v0 : Value) (x0 : List Trm) (v1 : Value) (x1 : List Trm), TrmsRaw W v0 x0 → TrmsRaw W v1 x1 → Calls Tryz.prog F #[v0, v1] W fun e w' => e = .returned (.bool true) ∧ Kept W w')
    {H : Type} {enc : TypeId × Value → H} (W : World) (base : Nat) (args : Array Value) (ds gs : List (DataW H)) (before : List MemPlace)
    (hval : ∀ (j : Nat) t v, fn.params[j]? = some t → args[j]? = some v → Value.okWide Tryz.prog W .any base t v)
    (hW : DataW.Whole enc Tryz.prog fn.params.toList s.vars false W args.toList ds gs before)
    (hsz : (DataW.weightsEach Tryz.prog (fn.params.toList ++ s.plain.varTypes Tryz.prog) (ds ++ gs)).all (· ≤ reachBytes) = true) :
    Calls Tryz.prog F args W fun e W' => ∃ v, e = .returned v ∧ s.post enc Tryz.prog fn false true false false W args v W' := by
  have hW' := hW
  obtain ⟨p, q, hA, hV, rfl, hfz, _⟩ := hW
  rw [hs1] at hV
  obtain ⟨rfl, rfl⟩ := trodVars_none hV
  rw [hp] at hA hval hsz
  obtain ⟨v0, v1, d0, d1, p0, p1, rfl, rfl, rfl, h0, h1⟩ := trodAll_two hA
  have h0k := h0
  have h1k := h1
  obtain ⟨x0, g0⟩ := terms_arg (hval 0 _ _ rfl rfl) (fun n hn => by
    have := List.all_eq_true.1 hsz n (DataW.weights_mem_each (j := 0) rfl rfl n hn)
    simpa using this) h0
  obtain ⟨x1, g1⟩ := terms_arg (hval 1 _ _ rfl rfl) (fun n hn => by
    have := List.all_eq_true.1 hsz n (DataW.weights_mem_each (j := 1) rfl rfl n hn)
    simpa using this) h1
  have hlt : ∀ x ∈ p0 ++ p1, x.block < W.heap.size := fun x hx => hW'.lt x (by simpa using hx)
  refine (walk W v0 x0 v1 x1 g0 g1).mono fun e W' ⟨he, hk⟩ => ?_
  subst he
  refine ⟨_, rfl, [d0, d1], [], (p0 ++ p1) ++ [], [], p0 ++ p1, [], hW', ?_, ?_, ?_, Below.frame hk _, fun h => by cases h⟩
  · rw [hr]
    simp only [List.append_nil, hs2]
    exact trodAll_mk1 (shut_bool Tryz.underlying4 _)
  · rw [hp]
    simp only [List.append_nil, hs2]
    have := trodAll_mk2 (Below.trod laidOutK (by kernel_rfl) (of_decide_eq_true (by kernel_rfl)) h0k hk (fun x hx => hlt x (by simp [hx]))) (Below.trod laidOutK (by kernel_rfl) (of_decide_eq_true (by kernel_rfl)) h1k hk (fun x hx => hlt x (by simp [hx])))
    simpa using this
  · rw [hs1]
    simp only [List.append_nil, hs2]
    rfl
set_option maxRecDepth 100000 in
theorem liftTTN {s : ChangeSpec} (F : FuncId) (fn : Func) (hs1 : s.vars = []) (hs2 : ∀ (H : Type) (d0 d1 d2 : DataW H), s.fn H [d0, d1, d2] = { results := [.lit (.bool true)], args := [d0, d1, d2] })
    (hp : fn.params = #[22, 22, 34]) (hr : fn.resultTypes = #[4])
    (walk : ∀ (W : World) (v0 : Value) (x0 : List Trm) (v1 : Value) (x1 : List Trm) (x2 : Int), TrmsRaw W v0 x0 → TrmsRaw W v1 x1 → (Lit.int .u32 x2).wf = true → Calls Tryz.prog F #[v0, v1, .int .u32 x2] W fun e w' => e = .returned (.bool true) ∧ Kept W w')
    {H : Type} {enc : TypeId × Value → H} (W : World) (base : Nat) (args : Array Value) (ds gs : List (DataW H)) (before : List MemPlace)
    (hval : ∀ (j : Nat) t v, fn.params[j]? = some t → args[j]? = some v → Value.okWide Tryz.prog W .any base t v)
    (hW : DataW.Whole enc Tryz.prog fn.params.toList s.vars false W args.toList ds gs before)
    (hsz : (DataW.weightsEach Tryz.prog (fn.params.toList ++ s.plain.varTypes Tryz.prog) (ds ++ gs)).all (· ≤ reachBytes) = true) :
    Calls Tryz.prog F args W fun e W' => ∃ v, e = .returned v ∧ s.post enc Tryz.prog fn false true false false W args v W' := by
  have hW' := hW
  obtain ⟨p, q, hA, hV, rfl, hfz, _⟩ := hW
  rw [hs1] at hV
  obtain ⟨rfl, rfl⟩ := trodVars_none hV
  rw [hp] at hA hval hsz
  obtain ⟨v0, v1, v2, d0, d1, d2, p0, p1, p2, rfl, rfl, rfl, h0, h1, h2⟩ := trodAll_three hA
  have h0k := h0
  have h1k := h1
  have h2k := h2
  obtain ⟨x0, g0⟩ := terms_arg (hval 0 _ _ rfl rfl) (fun n hn => by
    have := List.all_eq_true.1 hsz n (DataW.weights_mem_each (j := 0) rfl rfl n hn)
    simpa using this) h0
  obtain ⟨x1, g1⟩ := terms_arg (hval 1 _ _ rfl rfl) (fun n hn => by
    have := List.all_eq_true.1 hsz n (DataW.weights_mem_each (j := 1) rfl rfl n hn)
    simpa using this) h1
  obtain ⟨x2, z2, _, _, g2⟩ := open_int Tryz.underlying34 (hval 2 _ _ rfl rfl) h2
  subst z2
  have hlt : ∀ x ∈ p0 ++ p1 ++ p2, x.block < W.heap.size := fun x hx => hW'.lt x (by simpa using hx)
  refine (walk W v0 x0 v1 x1 x2 g0 g1 g2).mono fun e W' ⟨he, hk⟩ => ?_
  subst he
  refine ⟨_, rfl, [d0, d1, d2], [], (p0 ++ p1 ++ p2) ++ [], [], p0 ++ p1 ++ p2, [], hW', ?_, ?_, ?_, Below.frame hk _, fun h => by cases h⟩
  · rw [hr]
    simp only [List.append_nil, hs2]
    exact trodAll_mk1 (shut_bool Tryz.underlying4 _)
  · rw [hp]
    simp only [List.append_nil, hs2]
    have := trodAll_mk3 (Below.trod laidOutK (by kernel_rfl) (of_decide_eq_true (by kernel_rfl)) h0k hk (fun x hx => hlt x (by simp [hx]))) (Below.trod laidOutK (by kernel_rfl) (of_decide_eq_true (by kernel_rfl)) h1k hk (fun x hx => hlt x (by simp [hx]))) (Below.trod laidOutK (by kernel_rfl) (of_decide_eq_true (by kernel_rfl)) h2k hk (fun x hx => hlt x (by simp [hx])))
    simpa using this
  · rw [hs1]
    simp only [List.append_nil, hs2]
    rfl
set_option maxRecDepth 100000 in
theorem liftTN {s : ChangeSpec} (F : FuncId) (fn : Func) (hs1 : s.vars = []) (hs2 : ∀ (H : Type) (d0 d1 : DataW H), s.fn H [d0, d1] = { results := [.lit (.bool true)], args := [d0, d1] })
    (hp : fn.params = #[22, 5]) (hr : fn.resultTypes = #[4])
    (walk : ∀ (W : World) (v0 : Value) (x0 : List Trm) (x1 : Int), TrmsRaw W v0 x0 → (Lit.int .u8 x1).wf = true → Calls Tryz.prog F #[v0, .int .u8 x1] W fun e w' => e = .returned (.bool true) ∧ Kept W w')
    {H : Type} {enc : TypeId × Value → H} (W : World) (base : Nat) (args : Array Value) (ds gs : List (DataW H)) (before : List MemPlace)
    (hval : ∀ (j : Nat) t v, fn.params[j]? = some t → args[j]? = some v → Value.okWide Tryz.prog W .any base t v)
    (hW : DataW.Whole enc Tryz.prog fn.params.toList s.vars false W args.toList ds gs before)
    (hsz : (DataW.weightsEach Tryz.prog (fn.params.toList ++ s.plain.varTypes Tryz.prog) (ds ++ gs)).all (· ≤ reachBytes) = true) :
    Calls Tryz.prog F args W fun e W' => ∃ v, e = .returned v ∧ s.post enc Tryz.prog fn false true false false W args v W' := by
  have hW' := hW
  obtain ⟨p, q, hA, hV, rfl, hfz, _⟩ := hW
  rw [hs1] at hV
  obtain ⟨rfl, rfl⟩ := trodVars_none hV
  rw [hp] at hA hval hsz
  obtain ⟨v0, v1, d0, d1, p0, p1, rfl, rfl, rfl, h0, h1⟩ := trodAll_two hA
  have h0k := h0
  have h1k := h1
  obtain ⟨x0, g0⟩ := terms_arg (hval 0 _ _ rfl rfl) (fun n hn => by
    have := List.all_eq_true.1 hsz n (DataW.weights_mem_each (j := 0) rfl rfl n hn)
    simpa using this) h0
  obtain ⟨x1, z1, _, _, g1⟩ := open_int Tryz.underlying5 (hval 1 _ _ rfl rfl) h1
  subst z1
  have hlt : ∀ x ∈ p0 ++ p1, x.block < W.heap.size := fun x hx => hW'.lt x (by simpa using hx)
  refine (walk W v0 x0 x1 g0 g1).mono fun e W' ⟨he, hk⟩ => ?_
  subst he
  refine ⟨_, rfl, [d0, d1], [], (p0 ++ p1) ++ [], [], p0 ++ p1, [], hW', ?_, ?_, ?_, Below.frame hk _, fun h => by cases h⟩
  · rw [hr]
    simp only [List.append_nil, hs2]
    exact trodAll_mk1 (shut_bool Tryz.underlying4 _)
  · rw [hp]
    simp only [List.append_nil, hs2]
    have := trodAll_mk2 (Below.trod laidOutK (by kernel_rfl) (of_decide_eq_true (by kernel_rfl)) h0k hk (fun x hx => hlt x (by simp [hx]))) (Below.trod laidOutK (by kernel_rfl) (of_decide_eq_true (by kernel_rfl)) h1k hk (fun x hx => hlt x (by simp [hx])))
    simpa using this
  · rw [hs1]
    simp only [List.append_nil, hs2]
    rfl
set_option maxRecDepth 100000 in
theorem liftTQN {s : ChangeSpec} (F : FuncId) (fn : Func) (hs1 : s.vars = []) (hs2 : ∀ (H : Type) (d0 d1 d2 : DataW H), s.fn H [d0, d1, d2] = { results := [.lit (.bool true)], args := [d0, d1, d2] })
    (hp : fn.params = #[22, 38, 3]) (hr : fn.resultTypes = #[4])
    (walk : ∀ (W : World) (v0 : Value) (x0 : List Trm) (x1 : Rw) (a1 b1 : Value) (x2 : Int), TrmsRaw W v0 x0 → WdRaw W a1 x1.num → WdRaw W b1 x1.den → (Lit.int .i64 x2).wf = true → Calls Tryz.prog F #[v0, .agg #[.bool x1.neg, a1, b1], .int .i64 x2] W fun e w' => e = .returned (.bool true) ∧ Kept W w')
    {H : Type} {enc : TypeId × Value → H} (W : World) (base : Nat) (args : Array Value) (ds gs : List (DataW H)) (before : List MemPlace)
    (hval : ∀ (j : Nat) t v, fn.params[j]? = some t → args[j]? = some v → Value.okWide Tryz.prog W .any base t v)
    (hW : DataW.Whole enc Tryz.prog fn.params.toList s.vars false W args.toList ds gs before)
    (hsz : (DataW.weightsEach Tryz.prog (fn.params.toList ++ s.plain.varTypes Tryz.prog) (ds ++ gs)).all (· ≤ reachBytes) = true) :
    Calls Tryz.prog F args W fun e W' => ∃ v, e = .returned v ∧ s.post enc Tryz.prog fn false true false false W args v W' := by
  have hW' := hW
  obtain ⟨p, q, hA, hV, rfl, hfz, _⟩ := hW
  rw [hs1] at hV
  obtain ⟨rfl, rfl⟩ := trodVars_none hV
  rw [hp] at hA hval hsz
  obtain ⟨v0, v1, v2, d0, d1, d2, p0, p1, p2, rfl, rfl, rfl, h0, h1, h2⟩ := trodAll_three hA
  have h0k := h0
  have h1k := h1
  have h2k := h2
  obtain ⟨x0, g0⟩ := terms_arg (hval 0 _ _ rfl rfl) (fun n hn => by
    have := List.all_eq_true.1 hsz n (DataW.weights_mem_each (j := 0) rfl rfl n hn)
    simpa using this) h0
  obtain ⟨x1, a1, b1, z1, g1, k1⟩ := rat_arg (hval 1 _ _ rfl rfl) (fun n hn => by
    have := List.all_eq_true.1 hsz n (DataW.weights_mem_each (j := 1) rfl rfl n hn)
    simpa using this) h1
  subst z1
  obtain ⟨x2, z2, _, _, g2⟩ := open_int Tryz.underlying3 (hval 2 _ _ rfl rfl) h2
  subst z2
  have hlt : ∀ x ∈ p0 ++ p1 ++ p2, x.block < W.heap.size := fun x hx => hW'.lt x (by simpa using hx)
  refine (walk W v0 x0 x1 a1 b1 x2 g0 g1 k1 g2).mono fun e W' ⟨he, hk⟩ => ?_
  subst he
  refine ⟨_, rfl, [d0, d1, d2], [], (p0 ++ p1 ++ p2) ++ [], [], p0 ++ p1 ++ p2, [], hW', ?_, ?_, ?_, Below.frame hk _, fun h => by cases h⟩
  · rw [hr]
    simp only [List.append_nil, hs2]
    exact trodAll_mk1 (shut_bool Tryz.underlying4 _)
  · rw [hp]
    simp only [List.append_nil, hs2]
    have := trodAll_mk3 (Below.trod laidOutK (by kernel_rfl) (of_decide_eq_true (by kernel_rfl)) h0k hk (fun x hx => hlt x (by simp [hx]))) (Below.trod laidOutK (by kernel_rfl) (of_decide_eq_true (by kernel_rfl)) h1k hk (fun x hx => hlt x (by simp [hx]))) (Below.trod laidOutK (by kernel_rfl) (of_decide_eq_true (by kernel_rfl)) h2k hk (fun x hx => hlt x (by simp [hx])))
    simpa using this
  · rw [hs1]
    simp only [List.append_nil, hs2]
    rfl
set_option maxRecDepth 100000 in
theorem liftTRA {s : ChangeSpec} (F : FuncId) (fn : Func) (hs1 : s.vars = []) (hs2 : ∀ (H : Type) (d0 d1 d2 : DataW H), s.fn H [d0, d1, d2] = { results := [.lit (.bool true)], args := [d0, d1, d2] })
    (hp : fn.params = #[22, 55, 56]) (hr : fn.resultTypes = #[4])
    (walk : ∀ (W : World) (v0 : Value) (x0 : List Trm) (v1 : Value) (x1 : List Rw) (x2 y2 : Int), TrmsRaw W v0 x0 → RatsRaw W v1 x1 → (Lit.int .i64 x2).wf = true → (Lit.int .i64 y2).wf = true → Calls Tryz.prog F #[v0, v1, .agg #[.int .i64 x2, .int .i64 y2]] W fun e w' => e = .returned (.bool true) ∧ Kept W w')
    {H : Type} {enc : TypeId × Value → H} (W : World) (base : Nat) (args : Array Value) (ds gs : List (DataW H)) (before : List MemPlace)
    (hval : ∀ (j : Nat) t v, fn.params[j]? = some t → args[j]? = some v → Value.okWide Tryz.prog W .any base t v)
    (hW : DataW.Whole enc Tryz.prog fn.params.toList s.vars false W args.toList ds gs before)
    (hsz : (DataW.weightsEach Tryz.prog (fn.params.toList ++ s.plain.varTypes Tryz.prog) (ds ++ gs)).all (· ≤ reachBytes) = true) :
    Calls Tryz.prog F args W fun e W' => ∃ v, e = .returned v ∧ s.post enc Tryz.prog fn false true false false W args v W' := by
  have hW' := hW
  obtain ⟨p, q, hA, hV, rfl, hfz, _⟩ := hW
  rw [hs1] at hV
  obtain ⟨rfl, rfl⟩ := trodVars_none hV
  rw [hp] at hA hval hsz
  obtain ⟨v0, v1, v2, d0, d1, d2, p0, p1, p2, rfl, rfl, rfl, h0, h1, h2⟩ := trodAll_three hA
  have h0k := h0
  have h1k := h1
  have h2k := h2
  obtain ⟨x0, g0⟩ := terms_arg (hval 0 _ _ rfl rfl) (fun n hn => by
    have := List.all_eq_true.1 hsz n (DataW.weights_mem_each (j := 0) rfl rfl n hn)
    simpa using this) h0
  obtain ⟨x1, g1⟩ := rats_arg (hval 1 _ _ rfl rfl) (fun n hn => by
    have := List.all_eq_true.1 hsz n (DataW.weights_mem_each (j := 1) rfl rfl n hn)
    simpa using this) h1
  obtain ⟨x2, y2, z2, g2, k2⟩ := two_arg (hval 2 _ _ rfl rfl) h2
  subst z2
  have hlt : ∀ x ∈ p0 ++ p1 ++ p2, x.block < W.heap.size := fun x hx => hW'.lt x (by simpa using hx)
  refine (walk W v0 x0 v1 x1 x2 y2 g0 g1 g2 k2).mono fun e W' ⟨he, hk⟩ => ?_
  subst he
  refine ⟨_, rfl, [d0, d1, d2], [], (p0 ++ p1 ++ p2) ++ [], [], p0 ++ p1 ++ p2, [], hW', ?_, ?_, ?_, Below.frame hk _, fun h => by cases h⟩
  · rw [hr]
    simp only [List.append_nil, hs2]
    exact trodAll_mk1 (shut_bool Tryz.underlying4 _)
  · rw [hp]
    simp only [List.append_nil, hs2]
    have := trodAll_mk3 (Below.trod laidOutK (by kernel_rfl) (of_decide_eq_true (by kernel_rfl)) h0k hk (fun x hx => hlt x (by simp [hx]))) (Below.trod laidOutK (by kernel_rfl) (of_decide_eq_true (by kernel_rfl)) h1k hk (fun x hx => hlt x (by simp [hx]))) (Below.trod laidOutK (by kernel_rfl) (of_decide_eq_true (by kernel_rfl)) h2k hk (fun x hx => hlt x (by simp [hx])))
    simpa using this
  · rw [hs1]
    simp only [List.append_nil, hs2]
    rfl
end Go.Proofs.YtpaedhlacbpmpaaGreatDoor

/-
  The words of the program's head: read once, without its characters being decoded word by word.
-/
namespace Go.Proofs.YtpaedhlacbpmpaaGreatDoor
open Go.RowKit

def chW (l : List Nat) : List Char := l.map Char.ofNat
theorem ws_word (w r : List Char) (h : ∀ c ∈ w, c ≠ Char.ofNat 32) : wordsSigns (w ++ Char.ofNat 32 :: r) = w :: wordsSigns r := by
  induction w with
  | nil => rfl
  | cons c w ih =>
    have hc : c ≠ Char.ofNat 32 := h c (by simp)
    have ih' := ih fun d hd => h d (List.mem_cons_of_mem _ hd)
    show wordsSigns (c :: (w ++ Char.ofNat 32 :: r)) = _
    rw [wordsSigns.eq_3 _ _ (by intro e; exact hc e), ih']
theorem apart (l : List Nat) (h : ((chW l).all fun c => c != Char.ofNat 32) = true) : ∀ c ∈ chW l, c ≠ Char.ofNat 32 := by
  intro c hc
  simpa using List.all_eq_true.1 h c hc
def wH : List Nat := [104, 97, 114, 110, 101, 115, 115]
def wS : List Nat := [98, 53, 48, 99, 48, 52, 48, 53, 97, 52, 49, 55, 52, 57, 51, 100, 52, 54, 55, 99, 51, 56, 101, 50, 51, 55, 102, 101, 51, 50, 49, 99, 54, 53, 50, 48, 55, 49, 49, 99, 57, 98, 55, 48, 97, 100, 50, 100, 48, 52, 56, 56, 48, 98, 57, 100, 49, 50, 53, 48, 53, 53, 98, 100]
def wC : List Nat := [99, 117, 116]
def wR : List Nat := [97, 116, 32, 102, 97, 117, 108, 116, 108, 105, 110, 101, 47, 102, 97, 117, 108, 116, 108, 105, 110, 101, 108, 97, 119, 50, 48, 46, 80, 111, 108, 121, 110, 111, 109, 105, 97, 108, 83, 117, 109, 115, 32, 102, 97, 117, 108, 116, 108, 105, 110, 101, 47, 102, 97, 117, 108, 116, 108, 105, 110, 101, 108, 97, 119, 50, 48, 46, 80, 111, 108, 121, 110, 111, 109, 105, 97, 108, 72, 111, 109, 101, 115, 32, 102, 97, 117, 108, 116, 108, 105, 110, 101, 47, 102, 97, 117, 108, 116, 108, 105, 110, 101, 108, 97, 119, 50, 48, 46, 80, 111, 108, 121, 110, 111, 109, 105, 97, 108, 83, 112, 108, 105, 116, 115, 32, 102, 97, 117, 108, 116, 108, 105, 110, 101, 47, 102, 97, 117, 108, 116, 108, 105, 110, 101, 108, 97, 119, 50, 48, 46, 80, 111, 108, 121, 110, 111, 109, 105, 97, 108, 67, 104, 101, 99, 107, 115, 32, 102, 97, 117, 108, 116, 108, 105, 110, 101, 47, 102, 97, 117, 108, 116, 108, 105, 110, 101, 108, 97, 119, 50, 48, 46, 80, 111, 108, 121, 110, 111, 109, 105, 97, 108, 86, 97, 108, 117, 101, 115, 32, 102, 97, 117, 108, 116, 108, 105, 110, 101, 47, 102, 97, 117, 108, 116, 108, 105, 110, 101, 108, 97, 119, 50, 48, 46, 80, 111, 108, 121, 110, 111, 109, 105, 97, 108, 67, 104, 97, 110, 99, 101, 115, 32, 102, 97, 117, 108, 116, 108, 105, 110, 101, 47, 102, 97, 117, 108, 116, 108, 105, 110, 101, 108, 97, 119, 50, 48, 46, 80, 111, 108, 121, 110, 111, 109, 105, 97, 108, 84, 114, 117, 101]
theorem pf_order : Tryz.prog.initOrder = String.ofList (chW wH ++ Char.ofNat 32 :: (chW wS ++ Char.ofNat 32 :: (chW wC ++ Char.ofNat 32 :: chW wR))) := by kernel_rfl
theorem pf_words : wordsSigns Tryz.prog.initOrder.toList = chW wH :: chW wS :: chW wC :: wordsSigns (chW wR) := by
  rw [pf_order, String.toList_ofList, ws_word _ _ (apart _ (by kernel_rfl)), ws_word _ _ (apart _ (by kernel_rfl)), ws_word _ _ (apart _ (by kernel_rfl))]
theorem pf_behind : behindMainWord (wordsSigns Tryz.prog.initOrder.toList) = chW wC :: wordsSigns (chW wR) := by
  rw [pf_words]
  generalize wordsSigns (chW wR) = W
  have h : ((chW wH == "harness".toList || chW wH == "ownmain".toList) && isSumSigns (chW wS)) = true := by kernel_rfl
  unfold behindMainWord
  exact if_pos h
theorem pf_later : Tryz.prog.laysLater = false := by kernel_rfl
theorem pf_reflect : Tryz.prog.bearsReflect = false := by kernel_rfl
theorem pf_door : Tryz.prog.doorFits [] = true := by kernel_rfl
theorem pf_strip (W : List (List Char)) : stripLifts liftWords (chW wC :: W) = ([], chW wC :: W) := by kernel_rfl
theorem enter_of {P : Program} {c : List Char} {W : List (List Char)} (h : behindMainWord (wordsSigns P.initOrder.toList) = c :: W) (hs : stripLifts liftWords (c :: W) = ([], c :: W))
    (hc : c = "cut".toList) (hl : P.laysLater = false) (hr : P.bearsReflect = false) (hd : P.doorFits [] = true) : P.mayEnter = true := by
  have hh : ((c :: W).head? == some "cut".toList) = true := by rw [hc]; simp
  unfold Program.mayEnter
  rw [h]
  simp only [hs, hl, hr, hd, hh]
  simp
theorem main_of {P : Program} {h s : List Char} {W : List (List Char)} (hw : wordsSigns P.initOrder.toList = h :: s :: W) (hs : isSumSigns s = true) (hh : (h == "harness".toList) = true) : P.mainIs = some (true, s) := by
  unfold Program.mainIs
  rw [hw]
  simp only [hs, hh]
  rfl
theorem lifts_of {P : Program} {c : List Char} {W : List (List Char)} (h : behindMainWord (wordsSigns P.initOrder.toList) = c :: W) (hs : stripLifts liftWords (c :: W) = ([], c :: W)) : P.headLifts = [] := by
  unfold Program.headLifts
  rw [h, hs]
  dsimp only
  split <;> rfl
theorem final_of {P : Program} {c : List Char} {W : List (List Char)} (h : behindMainWord (wordsSigns P.initOrder.toList) = c :: W) (hl : P.headLifts = []) (hc : (c == "carried".toList) = false) : P.liftsFinal = false := by
  unfold Program.liftsFinal
  rw [h, hl]
  have : ((c :: W).head? == some "carried".toList) = false := by
    rw [Bool.eq_false_iff] at hc ⊢
    intro e; apply hc
    simpa using e
  simp only [this]
  rfl
theorem make_of {P : Program} {c : List Char} {W : List (List Char)} (h : behindMainWord (wordsSigns P.initOrder.toList) = c :: W) (h0 : (c == "gc".toList) = false) (h1 : (c == "spec".toList) = false) (h2 : (c == "cut".toList) = true) : P.make = some .cut := by
  unfold Program.make
  rw [h]
  simp only [h0, h1, h2]
  rfl
theorem wC_cut : chW wC = "cut".toList := by kernel_rfl
theorem pf_enter : Tryz.prog.mayEnter = true := enter_of pf_behind (pf_strip _) wC_cut pf_later pf_reflect pf_door
theorem pf_main : Tryz.prog.mainIs = some (true, "b50c0405a417493d467c38e237fe321c6520711c9b70ad2d04880b9d125055bd".toList) :=
  (main_of pf_words (by kernel_rfl) (by kernel_rfl)).trans (congrArg (fun x => some (true, x)) (show chW wS = _ by kernel_rfl))
theorem pf_lifts : Tryz.prog.headLifts = [] := lifts_of pf_behind (pf_strip _)
theorem pf_final : Tryz.prog.liftsFinal = false := final_of pf_behind pf_lifts (by kernel_rfl)
theorem pf_make : Tryz.prog.make = some .cut := make_of pf_behind (by kernel_rfl) (by kernel_rfl) (by kernel_rfl)
end Go.Proofs.YtpaedhlacbpmpaaGreatDoor

/-
  Facts of the program that each lift asks.
-/
namespace Go.Proofs.YtpaedhlacbpmpaaGreatDoor
open Go.RowKit Go.ChangeShapes Go.WideShapes Go.ChangeAt

theorem pf_laidout : (laidOutB Tryz.prog) = true := by kernel_rfl
theorem pf_mapsrowed : (mapsRowed Tryz.prog) = true := by kernel_rfl
theorem pf_stops : ((Tryz.prog.stops == [])) = true := by kernel_rfl
theorem pf_knobs : ((Tryz.prog.stopKnobs == [])) = true := by kernel_rfl
theorem pf_heard : (Tryz.prog.stopsHeard) = true := by kernel_rfl
theorem pf_looks : true = Tryz.pinned.checked.prog.looks [] := by kernel_rfl
end Go.Proofs.YtpaedhlacbpmpaaGreatDoor

/-
  Laws of a formula and a list of fractions: from their walks to their rows' steps.
-/
namespace Go.Proofs.YtpaedhlacbpmpaaGreatDoor
open Go.RowKit Go.ChangeShapes Go.WideShapes Go.ChangeAt Go.Joins Go.Deep

set_option maxRecDepth 100000 in
theorem liftFR {s : ChangeSpec} (F : FuncId) (fn : Func) (hs1 : s.vars = []) (hs2 : ∀ (H : Type) (d1 d2 : DataW H), s.fn H [d1, d2] = { results := [.lit (.bool true)], args := [d1, d2] })
    (hp : fn.params = #[67, 55]) (hr : fn.resultTypes = #[4])
    (walk : ∀ (W : World) (u v : Value) (f : Fm) (ps : List Rw), NodesAt W u f.nodes → FmOk f → RatsRaw W v ps → Calls Tryz.prog F #[fmV u f, v] W fun e w' => e = .returned (.bool true) ∧ Kept W w')
    {H : Type} {enc : TypeId × Value → H} (W : World) (base : Nat) (args : Array Value) (ds gs : List (DataW H)) (before : List MemPlace)
    (hval : ∀ (j : Nat) t v, fn.params[j]? = some t → args[j]? = some v → Value.okWide Tryz.prog W .any base t v)
    (hW : DataW.Whole enc Tryz.prog fn.params.toList s.vars false W args.toList ds gs before)
    (hsz : (DataW.weightsEach Tryz.prog (fn.params.toList ++ s.plain.varTypes Tryz.prog) (ds ++ gs)).all (· ≤ reachBytes) = true) :
    Calls Tryz.prog F args W fun e W' => ∃ v, e = .returned v ∧ s.post enc Tryz.prog fn false true false false W args v W' := by
  have hW' := hW
  obtain ⟨p, q, hA, hV, rfl, hfz, _⟩ := hW
  rw [hs1] at hV
  obtain ⟨rfl, rfl⟩ := trodVars_none hV
  rw [hp] at hA hval hsz
  obtain ⟨v0, v1, d0, d1, p0, p1, rfl, rfl, rfl, h0, h1⟩ := trodAll_two hA
  have h0k := h0
  have h1k := h1
  obtain ⟨u, f, rfl, hx, hfo⟩ := fm_open (hval 0 _ _ rfl rfl) (fun n hn => by
    have := List.all_eq_true.1 hsz n (DataW.weights_mem_each (j := 0) rfl rfl n hn)
    simpa using this) h0
  obtain ⟨ps, hps⟩ := rats_arg (hval 1 _ _ rfl rfl) (fun n hn => by
    have := List.all_eq_true.1 hsz n (DataW.weights_mem_each (j := 1) rfl rfl n hn)
    simpa using this) h1
  have hlt : ∀ x ∈ p0 ++ p1, x.block < W.heap.size := fun x hx => hW'.lt x (by simpa using hx)
  refine (walk W u v1 f ps hx hfo hps).mono fun e W' ⟨he, hk⟩ => ?_
  subst he
  refine ⟨_, rfl, [d0, d1], [], (p0 ++ p1) ++ [], [], p0 ++ p1, [], hW', ?_, ?_, ?_, Below.frame hk _, fun h => by cases h⟩
  · rw [hr]
    simp only [List.append_nil, hs2]
    exact trodAll_mk1 (shut_bool Tryz.underlying4 _)
  · rw [hp]
    simp only [List.append_nil, hs2]
    exact trodAll_mk2 (Below.trod laidOutK (by kernel_rfl) (of_decide_eq_true (by kernel_rfl)) h0k hk (fun x hx => hlt x (by simp [hx]))) (Below.trod laidOutK (by kernel_rfl) (of_decide_eq_true (by kernel_rfl)) h1k hk (fun x hx => hlt x (by simp [hx])))
  · rw [hs1]
    simp only [List.append_nil, hs2]
    rfl
end Go.Proofs.YtpaedhlacbpmpaaGreatDoor

/-
  Plain: sizes of one fraction of a list.
-/
namespace Go.Proofs.YtpaedhlacbpmpaaGreatDoor
open Go.RowKit

theorem qOf_short {ps : List Rw} (hs : ∀ r ∈ ps, r.Short 3) {k : Nat} (hk : k < ps.length) : (ps.getD k default).Short 3 := by
  have e : ps.getD k default = ps[k] := by simp [List.getD_eq_getElem?_getD, hk]
  rw [e]; exact hs _ (List.getElem_mem hk)
theorem qOf_ok {ps : List Rw} (hs : ∀ r ∈ ps, r.Ok) {k : Nat} (hk : k < ps.length) : (ps.getD k default).Ok := by
  have e : ps.getD k default = ps[k] := by simp [List.getD_eq_getElem?_getD, hk]
  rw [e]; exact hs _ (List.getElem_mem hk)
theorem ratOf_one : ratOf (canR ((1 : Int) : Rat)) = 1 := by rw [ratOf_can]; rfl
theorem not_short {ps : List Rw} (hs : ∀ r ∈ ps, r.Short 3) (hok : ∀ r ∈ ps, r.Ok) {k : Nat} (hk : k < ps.length) : (canR (1 - qOf ps k)).Short 6 := by
  have h1 := short_neg (qOf_ok hok hk) (qOf_short hs hk) (by omega)
  have h := short_add (canR_ok ((1 : Int) : Rat)) (canR_ok (- ratOf (ps.getD k default))) one_short h1 (by omega) (by omega)
  rw [ratOf_one, ratOf_can, ← Rat.sub_eq_add_neg] at h
  exact ⟨Nat.le_trans h.1 (by omega), Nat.le_trans h.2 (by omega)⟩
end Go.Proofs.YtpaedhlacbpmpaaGreatDoor

/-
  Plain: the sum over the states in which a formula is true, state by state.
-/
namespace Go.Proofs.YtpaedhlacbpmpaaGreatDoor
open Go.RowKit

/-- The sum over the first states that are true. -/
def stS (ps : List Rw) (V T : Nat) (f : Fm) (k : Nat) : Rat := sumTo (fun s => if (valsK V s f.nodes).getD T false = true then stQ (qOf ps) s V else 0) k
theorem stS_true {ps : List Rw} {V T : Nat} {f : Fm} {k : Nat} (h : (valsK V k f.nodes).getD T false = true) : stS ps V T f (k + 1) = stS ps V T f k + stQ (qOf ps) k V := by
  unfold stS; rw [sumTo, if_pos h]
theorem stS_false {ps : List Rw} {V T : Nat} {f : Fm} {k : Nat} (h : (valsK V k f.nodes).getD T false = false) : stS ps V T f (k + 1) = stS ps V T f k := by
  unfold stS; rw [sumTo, if_neg (by rw [h]; simp), Rat.add_zero]
theorem stQ_true {q : Nat → Rat} {s n : Nat} (h : s.testBit n = true) : stQ q s (n + 1) = stQ q s n * q n := by rw [stQ, if_pos h]
theorem stQ_false {q : Nat → Rat} {s n : Nat} (h : s.testBit n = false) : stQ q s (n + 1) = stQ q s n * (1 - q n) := by rw [stQ, if_neg (by rw [h]; simp)]
theorem stQ_short {ps : List Rw} {s : Nat} (hs : ∀ r ∈ ps, r.Short 3) (hok : ∀ r ∈ ps, r.Ok) : ∀ n, n ≤ ps.length → (canR (stQ (qOf ps) s n)).Short (6 * n + 1) := by
  intro n
  induction n with
  | zero => intro _; exact one_short
  | succ n ih =>
    intro hn
    have ih := ih (by omega)
    cases hb : s.testBit n with
    | true =>
      have h := short_mul (canR_ok (stQ (qOf ps) s n)) (qOf_ok hok (k := n) (by omega)) ih (qOf_short hs (k := n) (by omega)) (by omega) (by omega)
      rw [ratOf_can] at h
      rw [stQ_true hb]
      exact ⟨Nat.le_trans h.1 (by omega), Nat.le_trans h.2 (by omega)⟩
    | false =>
      have h := short_mul (canR_ok (stQ (qOf ps) s n)) (canR_ok (1 - qOf ps n)) ih (not_short hs hok (k := n) (by omega)) (by omega) (by omega)
      rw [ratOf_can, ratOf_can] at h
      rw [stQ_false hb]
      exact ⟨Nat.le_trans h.1 (by omega), Nat.le_trans h.2 (by omega)⟩
theorem stS_short {ps : List Rw} {V T : Nat} {f : Fm} (hV : V = ps.length) (h6 : V ≤ 6) (hs : ∀ r ∈ ps, r.Short 3) (hok : ∀ r ∈ ps, r.Ok) : ∀ k, (canR (stS ps V T f k)).Short (38 * k + 1) := by
  intro k
  induction k with
  | zero => exact ⟨Nat.zero_le _, Nat.zero_le _⟩
  | succ k ih =>
    cases hb : (valsK V k f.nodes).getD T false with
    | true =>
      have hq := stQ_short (s := k) hs hok V (by omega)
      have h := short_add (canR_ok (stS ps V T f k)) (canR_ok (stQ (qOf ps) k V)) ih hq (by omega) (by omega)
      rw [ratOf_can, ratOf_can, ← stS_true hb] at h
      exact ⟨Nat.le_trans h.1 (by omega), Nat.le_trans h.2 (by omega)⟩
    | false =>
      rw [stS_false hb]
      exact ⟨Nat.le_trans ih.1 (by omega), Nat.le_trans ih.2 (by omega)⟩
end Go.Proofs.YtpaedhlacbpmpaaGreatDoor

/-
  Everything that the laws of chapter 20 stand on.
-/
namespace Go.Proofs.YtpaedhlacbpmpaaGreatDoor
theorem izp0 : True := trivial
end Go.Proofs.YtpaedhlacbpmpaaGreatDoor
