import Derived.WalkKit
import Derived.WalkSpells
import Derived.WalkLawsBesides
import Derived.Deep.QuietTactic
import Derived.BigQuiet
import Derived.Lib.Hide
import Derived.Shelf.Abstract
import Derived.Deep.RegionWith
import Derived.Laws.AppendOwnNone
import Derived.Lib.AppendZerosOnto
import Derived.Lib.SliceRun
import Derived.Lib.SlicesCompact
import Derived.Shelf.SlSortCmp.NoneTotal
import Derived.Maps.OwnOps
import Derived.Maps.OwnSet
import Derived.Maps.Views
import Derived.Deep.MidRow
import Derived.Deep.RegionHeld3
import Derived.Deep.AppendLies
import Derived.Deep.RegionLaw
import Derived.IntWalk
import Derived.StillTailTactics
import Derived.RegionTactic
import Derived.BigRegion
import Derived.ChangeAlike
import Derived.Sort.LotD2
import Derived.Sort.LotA
import Derived.Shelf.SlSortCmp.PdqK
import Derived.Deep.DeepCutAuto
import Derived.Lib.ItoaNum
import Derived.Deep.LoopGhost
import Derived.ProofKit
import Derived.OpenShut
import Derived.SizedLaws
import Derived.Lib.SmallJoins
import Derived.Deep.Slices
import Derived.Deep.Fields
import Derived.Deep.Strs
import Derived.Carry
import Derived.Lib.BitFns
import Derived.Deep.CutBlock
import Derived.Laws.IdiomStrings
import Derived.Test.YthiemjodcklejaaGreatDoorDX11
import Derived.Test.YthiemjodcklejaaGreatDoorDX5
import Derived.Test.YthiemjodcklejaaGreatDoorDX4
import Derived.Test.YthiemjodcklejaaGreatDoorDX9
import Derived.Test.YthiemjodcklejaaGreatDoorChecked
import Derived.Test.YthiemjodcklejaaGreatDoorRows
import Derived.Lay
import Derived.Stop.Joined
import Derived.Test.YthiemjodcklejaaGreatDoorCards
import Derived.Test.YthiemjodcklejaaGreatDoorTie
import Derived.LaidMore
import Derived.SevenTiedAt
/-
  Walk: the law DisjointExact returns true, whatever the formula and the fractions. Printed by pre.py.
-/
namespace Go.Proofs.YthiemjodcklejaaGreatDoor
open Go.RowKit

theorem bit_val0 (s k : Nat) (hs : s < 16777216) : (bits .and .i64 ((s : Int) / 2 ^ k) 1 == 0) = !s.testBit k := by
  have h := bit_val s k hs
  have e : (s : Int) / 2 ^ k = ((s / 2 ^ k : Nat) : Int) := by simp
  have hle : s / 2 ^ k ≤ s := Nat.div_le_self _ _
  have e2 : bits .and .i64 ((s : Int) / 2 ^ k) 1 = ((s / 2 ^ k % 2 : Nat) : Int) := by
    rw [e, show (1 : Int) = ((1 : Nat) : Int) from rfl, and_i64 _ _ (by omega) (by omega), Nat.and_one_is_mod]
  rw [← h, e2, Bool.eq_iff_iff]
  simp
  omega
theorem RatsAt.read {w : World} {a : Option Addr} {n c : Nat} {ps : List Rw} (h : RatsAt w (.slice a n c) ps) (i : Nat) (hi : i < ps.length) : ∃ b o y1 y2 y3 a1 c1 a2 c2, a = some ⟨b, o, none⟩ ∧
    w.cell? ⟨b, o + i * 3, none⟩ = some (.bool y1) ∧ w.cell? ⟨b, o + i * 3 + 1, none⟩ = some (.slice a1 y2 c1) ∧ w.cell? ⟨b, o + i * 3 + 2, none⟩ = some (.slice a2 y3 c2) ∧
    Hid (RatAt w (.agg #[.bool y1, .slice a1 y2 c1, .slice a2 y3 c2]) (ps.getD i default)) := by
  obtain ⟨b, o, u1, u2, he, hr, h1, h2⟩ := h.get i hi
  obtain ⟨a1, c1, rfl⟩ := h1.shape
  obtain ⟨a2, c2, rfl⟩ := h2.shape
  have z0 := hr 0 _ rfl
  rw [Nat.add_zero] at z0
  exact ⟨b, o, _, _, _, a1, c1, a2, c2, he, z0, hr 1 _ rfl, hr 2 _ rfl, Lib.hid ⟨_, _, rfl, h1, h2⟩⟩
theorem RatAt.lay {w : World} {b : Bool} {u1 u2 : Value} {r : Rw} (h : RatAt w (.agg #[.bool b, u1, u2]) r) : RatCell (w.alloc (.cells #[.bool b, u1, u2] 31)) w.heap.size r := by
  obtain ⟨x1, x2, e1, k1, k2⟩ := h
  simp only [Value.agg.injEq, Array.mk.injEq, List.cons.injEq, Value.bool.injEq, and_true] at e1
  obtain ⟨rfl, rfl, rfl⟩ := e1
  obtain ⟨a1, c1, rfl⟩ := k1.shape
  obtain ⟨a2, c2, rfl⟩ := k2.shape
  exact RatCell.made k1 k2
set_option maxRecDepth 100000 in
set_option maxHeartbeats 16000000 in
theorem dexact_true (v pv : Value) (f : Fm) (ps : List Rw) (w : World) (hv : NodesAt w v f.nodes) (hfo : FmOk f) (hp : RatsRaw w pv ps) :
    Calls Tryz.prog 4 #[fmV v f, pv] w fun e w' => e = .returned (.bool true) ∧ Kept w w' := by
  have ht : f.top ≤ 9223372036854775807 := hfo.2.1.2
  have hh : ∀ W, Kept w W → Calls Tryz.prog 12 #[fmV v f] W fun e w' => (∃ b, e = .returned (.bool b)) ∧ Kept W w' := fun W hk => heavy_any v f W (hv.kept hk)
  have hc : ∀ W, Kept w W → Calls Tryz.prog 20 #[fmV v f] W fun e w' => e = .returned (errV (chkF f)) ∧ Kept W w' := fun W hk => check_any v f W (hv.kept hk) ht
  have HHR := Lib.hid fun (h30 : ps.length ≤ 30) (hs3 : ∀ r ∈ ps, r.Short 3) (hp2 : RatsAt w pv ps) V T (hok : Ok f V T) (hck : chkF f = 0) (hl : ps.length = V) => top_one v pv f V T ps w hv hok hck ht hp2 hs3 h30 hl
  have HVL := Lib.hid fun V T (hok : Ok f V T) (hck : chkF f = 0) s (hs : s < 2 ^ V) W (hk : Kept w W) => value_any v f V T s W (hv.kept hk) hok hck hs
  have hs : ∃ a n c, v = .slice a n c := by obtain ⟨a, c, h, _⟩ := hv; exact ⟨a, _, c, h⟩
  have HOK := Lib.hid fun (h : chkF f = 0) => ok_of f h
  obtain ⟨q, hq⟩ : ∃ q, q = chkF f := ⟨_, rfl⟩
  rw [← hq] at hc HOK HHR HVL
  have HL := Lib.hid (fun W (h : Kept w W) => large_any pv ps W (hp.kept h))
  have HRV := Lib.hid hp
  obtain ⟨a, n, c, rfl⟩ := hs
  obtain ⟨pa, pc, hps, hp9⟩ := id hp
  obtain ⟨pn, hpn⟩ : ∃ pn, pn = ps.length := ⟨_, rfl⟩
  rw [← hpn] at hps
  subst hps
  obtain ⟨fs, hfs⟩ : ∃ fs, fs = f := ⟨_, rfl⟩
  have HFS := Lib.hid hfs
  clear hfs
  obtain ⟨vars, nodes, top⟩ := f
  have HH : Hid (∀ W, Kept w W → Calls Tryz.prog 12 #[.agg #[.int .i64 vars, .slice a n c, .int .i64 top]] W fun e w' => (∃ b, e = .returned (.bool b)) ∧ Kept W w') := Lib.hid hh
  have HC : Hid (∀ W, Kept w W → Calls Tryz.prog 20 #[.agg #[.int .i64 vars, .slice a n c, .int .i64 top]] W fun e w' => e = .returned (errV q) ∧ Kept W w') := Lib.hid hc
  have HA : Hid (∀ W, Calls Tryz.prog 11 #[] W fun e w' => e = .returned (.bool true) ∧ Kept W w') := Lib.hid fun W => awake38_ok W
  show Calls _ _ #[.agg #[.int .i64 vars, .slice a n c, .int .i64 top], .slice pa pn pc] _ _
  obtain ⟨w0, hw0⟩ : ∃ w0, w0 = w.alloc (.cells #[.int .i64 vars, .slice a n c, .int .i64 top] 24) := ⟨_, rfl⟩
  have HX0 : Hid (RowAt w0 w.heap.size 24 [.int .i64 vars, .slice a n c, .int .i64 top]) := Lib.hid (by rw [hw0]; exact RowAt.made w #[.int .i64 vars, .slice a n c, .int .i64 top] 24)
  have HK0 : Hid (Kept w w0) := Lib.hid (by rw [hw0]; exact (Kept.refl _).alloc _)
  have HW0 := Lib.hid hw0
  have HPN := Lib.hid hpn
  clear hv hh hc hq ht hfo hp hp9 hw0 hpn
  go_enter Tryz.func4, Tryz.ntmps4
  go_wp2_with fail
  rw [← HW0.out]
  refine (HA.out _).mono ?_
  rintro e w1 ⟨rfl, hk1⟩
  have HX1 := Lib.hid (HX0.out.kept hk1)
  have HK1 := Lib.hid (HK0.out.trans hk1)
  obtain ⟨c0, c1, c2⟩ := box_at HX1.out
  clear hk1
  go_wp2_with fail
  refine (HH.out _ HK1.out).mono ?_
  rintro e w2 ⟨⟨b, rfl⟩, hk2⟩
  have HX2 := Lib.hid (HX1.out.kept hk2)
  have HK2 := Lib.hid (HK1.out.trans hk2)
  clear hk2 c0 c1 c2
  cases b with
  | true =>
    go_wp2_with fail
    refine (HA.out _).mono ?_
    rintro e w3 ⟨rfl, hk3⟩
    go_wp2
    go_ret
    exact ⟨rfl, HK2.out.trans hk3⟩
  | false =>
    go_wp2_with fail
    refine (HL.out _ HK2.out).mono ?_
    rintro e w3 ⟨⟨u2, rfl, bb, rfl, hbb⟩, hk3⟩
    have HX3 := Lib.hid (HX2.out.kept hk3)
    have HK3 := Lib.hid (HK2.out.trans hk3)
    have HBB := Lib.hid hbb
    clear hk3 hbb
    cases bb with
    | true =>
      go_wp2_with fail
      refine (HA.out _).mono ?_
      rintro e w4 ⟨rfl, hk4⟩
      go_wp2
      go_ret
      exact ⟨rfl, HK3.out.trans hk4⟩
    | false =>
      obtain ⟨h30, hs3⟩ := HBB.out rfl
      have hpv := HRV.out.small fun r hr => ⟨Nat.le_trans (hs3 r hr).1 (by omega), Nat.le_trans (hs3 r hr).2 (by omega)⟩
      have HBO := Lib.hid (HHR.out h30 hs3 hpv)
      have HPV := Lib.hid hpv
      have HS3 := Lib.hid hs3
      have H30 := Lib.hid h30
      clear h30 hs3 hpv
      obtain ⟨c0, c1, c2⟩ := box_at HX3.out
      by_cases hq0 : q = 0
      · subst hq0
        rw [errV_zero] at HC
        obtain ⟨V, T, hok⟩ := HOK.out rfl
        have HTO := Lib.hid (HBO.out V T hok rfl)
        have HVA := Lib.hid (HVL.out V T hok rfl)
        have e1 : vars = (V : Int) := hok.vars
        have e2 : top = (T : Int) := hok.top
        subst e1 e2
        have HOK2 := Lib.hid hok
        clear hok
        go_wp2_with fail
        refine (HC.out _ HK3.out).mono ?_
        rintro e w4 ⟨rfl, hk4⟩
        have HX4 := Lib.hid (HX3.out.kept hk4)
        have HK4 := Lib.hid (HK3.out.trans hk4)
        clear c0 c1 c2 hk4
        obtain ⟨c0, c1, c2⟩ := box_at HX4.out
        have hv0 : decide ((V : Int) < 0) = false := decide_eq_false (by omega)
        by_cases hV6 : V ≤ 6
        · have hv6 : decide ((6 : Int) < (V : Int)) = false := decide_eq_false (by omega)
          by_cases hpV : pn = V
          · subst hpV
            obtain ⟨Q, R, hQ, hT⟩ := HTO.out HPN.out.symm
            have HT := Lib.hid hT
            have HQC := Lib.hid hQ
            obtain ⟨r, hr⟩ : ∃ r, r = canR R := ⟨_, rfl⟩
            have HRR := Lib.hid hr
            rw [← hr] at HT
            clear hQ hT hr
            by_cases hQ0 : Q = 0
            · subst hQ0
              rw [errV_zero] at HT
              obtain ⟨hbad, p, out, hsy, htk, hcb, hRe⟩ : badR ps = false ∧ ∃ p out, synK pn T ⟨(pn : Int), nodes, (T : Int)⟩ = true ∧ topK pn T nodes = some p ∧ cubesK p.1 = some out ∧ R = sumWs ps out out.length := by
                rcases HQC.out with (h | h | ⟨h, _⟩) | ⟨_, h1, h2⟩
                · cases h
                · cases h
                · cases h
                · exact ⟨h1, h2⟩
              have hex := exact_eq (f := ⟨(pn : Int), nodes, (T : Int)⟩) HOK2.out hsy htk hcb HPN.out.symm HPV.out.ok hbad
              obtain ⟨G, hG⟩ : ∃ G : Nat → Rat, G = stS ps pn T ⟨(pn : Int), nodes, (T : Int)⟩ := ⟨_, rfl⟩
              obtain ⟨B, hB⟩ : ∃ B : Nat → Bool, B = fun k => (valsK pn k nodes).getD T false := ⟨_, rfl⟩
              have HG0 : Hid (canR (G 0) = ⟨false, [], []⟩) := Lib.hid (by rw [hG]; exact canR_zero)
              have HGT : Hid (∀ k, B k = true → G (k + 1) = G k + stQ (qOf ps) k pn) := Lib.hid fun k hk => by rw [hG]; exact stS_true (by rw [hB] at hk; exact hk)
              have HGF : Hid (∀ k, B k = false → G (k + 1) = G k) := Lib.hid fun k hk => by rw [hG]; exact stS_false (by rw [hB] at hk; exact hk)
              have HGS : Hid (∀ k, k ≤ 64 → (canR (G k)).Short 3000) := Lib.hid fun k hk => by
                have h := stS_short (f := ⟨(pn : Int), nodes, (T : Int)⟩) (T := T) HPN.out hV6 HS3.out HPV.out.ok k
                rw [← hG] at h
                exact ⟨Nat.le_trans h.1 (by omega), Nat.le_trans h.2 (by omega)⟩
              have HQS : Hid (∀ k i, i ≤ pn → (canR (stQ (qOf ps) k i)).Short 3000) := Lib.hid fun k i hi => by
                have h := stQ_short (s := k) HS3.out HPV.out.ok i (by rw [← HPN.out]; exact hi)
                exact ⟨Nat.le_trans h.1 (by omega), Nat.le_trans h.2 (by omega)⟩
              obtain ⟨M, hM⟩ : ∃ M, M = 2 ^ pn := ⟨_, rfl⟩
              have hM64 : M ≤ 64 := by rw [hM]; exact Nat.pow_le_pow_right (by decide) hV6
              have HRG : Hid (r = canR (G M)) := Lib.hid (by rw [HRR.out, hRe, hex.1, hG, hM])
              have HPB : Hid (probR r = true) := Lib.hid (by rw [HRR.out, hRe]; exact hex.2)
              have HVB : Hid (∀ k : Nat, k < M → ∀ W, Kept w W → Calls Tryz.prog 23 #[.agg #[.int .i64 pn, .slice a n c, .int .i64 T], .int .i64 k] W fun e w' => e = .returned (.tuple #[.bool (B k), .nilIface]) ∧ Kept W w') := Lib.hid fun k hk W h => by
                have h1 := HVA.out k (by rw [← hM]; exact hk) W h
                rw [hB]
                exact h1
              have hsh : wrap64 ((2 : Int) ^ pn) = (M : Int) := by rw [hM]; exact shlW pn (by omega)
              have HSH := Lib.hid hsh
              clear hG hB hM hex hRe hbad hsy htk hcb hsh HVA HTO HBO HVL HOK
              go_wp2_with fail
              refine (HT.out _ HK4.out).mono ?_
              rintro e w5 ⟨⟨v5, rfl, hv5⟩, hk5⟩
              have HX5 := Lib.hid (HX4.out.kept hk5)
              obtain ⟨n6, l6, m6, a6, c6, b6, d6, w6, rfl, hw6, hc6, hk6, hr6, hz6⟩ := hv5.box
              obtain ⟨w7, hw7⟩ : ∃ w7, w7 = w6.alloc (.cells #[.bool false, .slice none 0 0, .slice none 0 0] 31) := ⟨_, rfl⟩
              have hk7 : Kept w6 w7 := by rw [hw7]; exact (Kept.refl _).alloc _
              have HC7 : Hid (RatCell w7 w5.heap.size r) := Lib.hid (hc6.kept hk7)
              have HD7 : Hid (RatCell w7 (w5.heap.size + 1) (canR (G 0))) := Lib.hid (by rw [HG0.out, hw7, ← hz6]; exact RatCell.zero w6)
              have HX7 := Lib.hid (HX5.out.kept (hk6.trans hk7))
              have HK6 := Lib.hid (HK4.out.trans (hk5.trans hk6))
              have HK67 := Lib.hid hk7
              have HZ6 := Lib.hid hz6
              have HW6 := Lib.hid hw6
              have HW7 := Lib.hid hw7
              have HX6 := Lib.hid (HX5.out.kept hk6)
              have HC6 := Lib.hid hc6
              clear c0 c1 c2 hv5 hk5 hw6 hc6 hk6 hr6 hz6 hw7 hk7
              obtain ⟨c0, c1, c2⟩ := box_at HX5.out
              have hlt5 := HX5.out.lt
              go_wp2_with fail
              rw [← HW6.out, ← HW7.out, HSH.out]
              clear c0 c1 c2
              go_loopg [73] M (fun kx s73 wr => ∃ k : Nat, k ≤ M ∧ s73 = .int .i64 k ∧ M - k ≤ kx ∧ Hid (Kept w6 wr) ∧ Hid (RatCell wr (w5.heap.size + 1) (canR (G k))))
              case atStart => exact ⟨0, Nat.zero_le _, rfl, by omega, HK67, HD7⟩
              case round =>
                obtain ⟨k, hk, rfl, hkx, HKq, HGr⟩ := hrel
                obtain ⟨wo, rfl⟩ : ∃ wo : World, wo = wr := ⟨_, rfl⟩
                have HKw := Lib.hid (HK6.out.trans HKq.out)
                by_cases hlt : k < M
                · have hki : (k : Int) < (M : Int) := by omega
                  have HVK := Lib.hid (HVB.out k hlt)
                  obtain ⟨c0, c1, c2⟩ := box_at (HX6.out.kept HKq.out)
                  cases hBk : B k with
                  | false =>
                    have HGN : Hid (G (k + 1) = G k) := Lib.hid (HGF.out k hBk)
                    rw [hBk] at HVK
                    clear hBk
                    go_wp2_with fail
                    refine (HVK.out _ HKw.out).mono ?_
                    rintro e w8 ⟨rfl, hk8⟩
                    have HKN := Lib.hid (HKq.out.trans hk8)
                    have HGR : Hid (RatCell w8 (w5.heap.size + 1) (canR (G (k + 1)))) := Lib.hid (by rw [HGN.out]; exact HGr.out.kept hk8)
                    clear hk8 c0 c1 c2
                    go_wp2_with fail
                    go_roundg (M - (k + 1))
                    case measure => omega
                    case rel => exact ⟨k + 1, by omega, by go_num, Nat.le_refl _, HKN, HGR⟩
                  | true =>
                    have HGN : Hid (G (k + 1) = G k + stQ (qOf ps) k pn) := Lib.hid (HGT.out k hBk)
                    rw [hBk] at HVK
                    clear hBk
                    have hk24 : k < 16777216 := by omega
                    have HAD : Hid (∀ W u1 u2, RatAt W u1 (canR (G k)) → RatAt W u2 (canR (stQ (qOf ps) k pn)) → Calls Tryz.prog 27 #[u1, u2] W fun e w' => (∃ v', e = .returned v' ∧ RatAt w' v' (canR (G (k + 1)))) ∧ Kept W w') := Lib.hid fun W u1 u2 k1 k2 => by
                      have s1 := HGS.out k (by omega)
                      have s2 := HQS.out k pn (Nat.le_refl _)
                      have h := radd_any u1 u2 _ _ W k1 k2 ⟨Nat.le_trans s1.1 (by omega), Nat.le_trans s1.2 (by omega)⟩ ⟨Nat.le_trans s2.1 (by omega), Nat.le_trans s2.2 (by omega)⟩
                      rw [ratOf_can, ratOf_can, ← HGN.out] at h
                      exact h
                    have HOF : Hid (∀ W, Calls Tryz.prog 24 #[.int .i64 1] W fun e w' => (∃ v', e = .returned v' ∧ RatAt w' v' (canR 1)) ∧ Kept W w') := Lib.hid fun W => rof_any 1 W (by omega) (by omega)
                    have HBV := Lib.hid (fun i => bit_val0 k i hk24)
                    have hpn6 := hV6
                    go_wp2_with fail
                    refine (HVK.out _ HKw.out).mono ?_
                    rintro e w8 ⟨rfl, hk8⟩
                    have HX8 := Lib.hid (HX6.out.kept (HKq.out.trans hk8))
                    have HK68 := Lib.hid (HKq.out.trans hk8)
                    have HKo8 := Lib.hid hk8
                    clear c0 c1 c2 hk8 hk24
                    obtain ⟨c0, c1, c2⟩ := box_at HX8.out
                    go_wp2_with fail
                    refine (HOF.out _).mono ?_
                    rintro e w9 ⟨⟨v9, rfl, hv9⟩, hk9⟩
                    obtain ⟨n9, l9, m9, a9, c9, b9, d9, w10, rfl, hw10, hc10, hk10, _, _⟩ := hv9.box
                    have HK69 := Lib.hid (HK68.out.trans hk9)
                    have HX9 := Lib.hid (HX8.out.kept hk9)
                    have HD9 := Lib.hid (HGr.out.kept (HKo8.out.trans hk9))
                    have HK910 := Lib.hid hk10
                    have HC10 : Hid (RatCell w10 w9.heap.size (canR (stQ (qOf ps) k 0))) := Lib.hid hc10
                    have HW10 := Lib.hid hw10
                    clear c0 c1 c2 hv9 hk9 hw10 hc10 hk10
                    obtain ⟨c0, c1, c2⟩ := box_at HX9.out
                    have hlt9 := HX9.out.lt
                    go_wp2_with fail
                    rw [← HW10.out]
                    clear c0 c1 c2
                    go_loopg [89] pn (fun kx s89 wq => ∃ i : Nat, i ≤ pn ∧ s89 = .int .i64 i ∧ pn - i ≤ kx ∧ Hid (Kept w9 wq) ∧ Hid (RatCell wq w9.heap.size (canR (stQ (qOf ps) k i))))
                    case atStart => exact ⟨0, Nat.zero_le _, rfl, by omega, HK910, HC10⟩
                    case round =>
                      obtain ⟨i, hi, rfl, hix, HKz, HPr⟩ := hrel
                      obtain ⟨wi, rfl⟩ : ∃ wi : World, wi = wr := ⟨_, rfl⟩
                      have HKi := Lib.hid (HK6.out.trans (HK69.out.trans HKz.out))
                      by_cases hin : i < pn
                      · have hii : (i : Int) < (pn : Int) := by omega
                        have hi0 : (0 : Int) ≤ (i : Int) := by omega
                        have hi64 : (i : Int) < 64 := by omega
                        have hil : i < ps.length := by rw [← HPN.out]; exact hin
                        have hsx := qOf_short HS3.out hil
                        have hox := qOf_ok HPV.out.ok hil
                        obtain ⟨b, o, y1, y2, y3, a1, c1, a2, c2, rfl, z0, z1, z2, HXV⟩ := (HPV.out.kept HKi.out).read i hil
                        obtain ⟨x, hx⟩ : ∃ x, x = ps.getD i default := ⟨_, rfl⟩
                        have hq : ratOf x = qOf ps i := by rw [hx]; rfl
                        rw [← hx] at HXV hsx hox
                        have hsn := not_short HS3.out HPV.out.ok hil
                        have s1 := HQS.out k i (Nat.le_of_lt hin)
                        obtain ⟨w11, hw11⟩ : ∃ w11, w11 = wi.alloc (.cells #[.bool y1, .slice a1 y2 c1, .slice a2 y3 c2] 31) := ⟨_, rfl⟩
                        have HCX : Hid (RatCell w11 wi.heap.size x) := Lib.hid (by rw [hw11]; exact HXV.out.lay)
                        have HK11 : Hid (Kept wi w11) := Lib.hid (by rw [hw11]; exact (Kept.refl _).alloc _)
                        have HW11 := Lib.hid hw11
                        have hbv := HBV.out i
                        cases hb : k.testBit i with
                        | true =>
                          have HMU : Hid (∀ W u1 u2, RatAt W u1 (canR (stQ (qOf ps) k i)) → RatAt W u2 x → Calls Tryz.prog 26 #[u1, u2] W fun e w' => (∃ v', e = .returned v' ∧ RatAt w' v' (canR (stQ (qOf ps) k (i + 1)))) ∧ Kept W w') := Lib.hid fun W u1 u2 k1 k2 => by
                            have h := rmul_any u1 u2 _ _ W k1 k2 ⟨Nat.le_trans s1.1 (by omega), Nat.le_trans s1.2 (by omega)⟩ ⟨Nat.le_trans hsx.1 (by omega), Nat.le_trans hsx.2 (by omega)⟩
                            rw [ratOf_can, hq, ← stQ_true hb] at h
                            exact h
                          rw [hb] at hbv
                          clear hb hsx hox hx hq hsn s1 hw11 hil
                          obtain ⟨p1, p2, p3, ep1, ep2, ep3, ep4, yp0, yp1, yp2, hlp, HRp⟩ := (HPr.out).read
                          go_wp2_with fail
                          rw [← HW11.out]
                          refine (HMU.out _ _ _ (HRp.out.kept HK11.out) (HXV.out.kept HK11.out)).mono ?_
                          rintro e w12 ⟨⟨v12, rfl, hv12⟩, hk12⟩
                          have HK12 := Lib.hid (HK11.out.trans hk12)
                          clear yp0 yp1 yp2 hlp HRp
                          obtain ⟨n5, l5, m5, g1, h1, g2, h2, w13, rfl, hw13, ⟨⟨t0, p0⟩, ⟨t1, q1⟩, ⟨t2, q2⟩⟩, ⟨f0, f1, f2⟩, hl6, _, _, HSN, HKP⟩ := (HPr.out.kept HK12.out).save hv12
                          have HKN := Lib.hid (HKP.out _ (HKz.out.trans HK12.out) (Nat.le_refl _))
                          rw [hw13] at HSN HKN
                          clear hv12 hk12 hw13 HKP z0 z1 z2
                          go_wp2_with fail
                          go_roundg (pn - (i + 1))
                          case measure => omega
                          case rel => exact ⟨i + 1, by omega, by go_num, Nat.le_refl _, HKN, HSN⟩
                        | false =>
                          have HSB : Hid (∀ W u1 u2, RatAt W u1 (canR 1) → RatAt W u2 x → Calls Tryz.prog 25 #[u1, u2] W fun e w' => (∃ v', e = .returned v' ∧ RatAt w' v' (canR (1 - qOf ps i))) ∧ Kept W w') := Lib.hid fun W u1 u2 k1 k2 => by
                            have h := rsub_any u1 u2 _ _ W k1 k2 ⟨by decide +kernel, by decide +kernel⟩ ⟨Nat.le_trans hsx.1 (by omega), Nat.le_trans hsx.2 (by omega)⟩
                            rw [ratOf_can, hq] at h
                            exact h
                          have HMU : Hid (∀ W u1 u2, RatAt W u1 (canR (stQ (qOf ps) k i)) → RatAt W u2 (canR (1 - qOf ps i)) → Calls Tryz.prog 26 #[u1, u2] W fun e w' => (∃ v', e = .returned v' ∧ RatAt w' v' (canR (stQ (qOf ps) k (i + 1)))) ∧ Kept W w') := Lib.hid fun W u1 u2 k1 k2 => by
                            have h := rmul_any u1 u2 _ _ W k1 k2 ⟨Nat.le_trans s1.1 (by omega), Nat.le_trans s1.2 (by omega)⟩ ⟨Nat.le_trans hsn.1 (by omega), Nat.le_trans hsn.2 (by omega)⟩
                            rw [ratOf_can, ratOf_can, ← stQ_false hb] at h
                            exact h
                          rw [hb] at hbv
                          clear hb hsx hox hx hq hsn s1 hw11 hil
                          go_upto_region 20 with fail
                          rw [← HW11.out]
                          clear z0 z1 z2
                          obtain ⟨x1, x2, x3, ex1, ex2, ex3, ex4, yx0, yx1, yx2, hlx, HRx⟩ := (HCX.out).read
                          go_region_with (first
                            | (go_at_call 24; (with_reducible refine (HOF.out _).mono ?_); rintro e w12 ⟨⟨v12, rfl, hv12⟩, hk12⟩; have KA : Hid (Kept w11 w12) := Lib.hid ((Kept.refl w11).drew.trans hk12); obtain ⟨r1, r2, r3, r4, r5, r6, r7, rfl⟩ := hv12.parts; have HV12 := Lib.hid hv12; have k0 := KA.out.cell yx0; have k1 := KA.out.cell yx1; have k2 := KA.out.cell yx2; clear hk12 hv12)
                            | (go_at_call 25; (with_reducible refine (HSB.out _ _ _ HV12.out (HRx.out.kept KA.out)).mono ?_); rintro e w13 ⟨⟨v13, rfl, hv13⟩, hk13⟩; have KB : Hid (Kept w11 w13) := Lib.hid (KA.out.trans hk13); obtain ⟨n5, l5, m5, g1, h1, g2, h2, w14, rfl, hw14, ⟨⟨t0, p0⟩, ⟨t1, q1⟩, ⟨t2, q2⟩⟩, ⟨f0, f1, f2⟩, hl6, _, _, HSX, HKP⟩ := (HCX.out.kept KB.out).save hv13; have HW14 := Lib.hid hw14; have HKX := Lib.hid (HKP.out wi (HK11.out.trans KB.out) (Nat.le_refl _)); clear hw14 hv13 hk13 HKP))
                          all_goals
                            rw [← HW14.out]
                            obtain ⟨p1, p2, p3, ep1, ep2, ep3, ep4, yp0, yp1, yp2, hlp, HRp⟩ := (HPr.out.kept HKX.out).read
                            obtain ⟨s1, s2, s3, es1, es2, es3, es4, ys0, ys1, ys2, hls, HRs⟩ := (HSX.out).read
                            go_wp2_with fail
                            refine (HMU.out _ _ _ HRp.out HRs.out).mono ?_
                            rintro e w15 ⟨⟨v15, rfl, hv15⟩, hk15⟩
                            have HK15 := Lib.hid (HKX.out.trans hk15)
                            obtain ⟨n5, l5, m5, g1, h1, g2, h2, w16, rfl, hw16, ⟨⟨t0, p0⟩, ⟨t1, q1⟩, ⟨t2, q2⟩⟩, ⟨f0, f1, f2⟩, hl7, _, _, HSN, HKQ⟩ := (HPr.out.kept HK15.out).save hv15
                            have HKN := Lib.hid (HKQ.out _ (HKz.out.trans HK15.out) (Nat.le_refl _))
                            rw [hw16] at HSN HKN
                            clear hv15 hk15 hw16 HKQ
                            go_wp2_with fail
                            go_roundg (pn - (i + 1))
                            case measure => omega
                            case rel => exact ⟨i + 1, by omega, by go_num, Nat.le_refl _, HKN, HSN⟩
                      · have hie : i = pn := by omega
                        have hii : ¬ (i : Int) < (pn : Int) := by omega
                        have HPN2 : Hid (RatCell wi w9.heap.size (canR (stQ (qOf ps) k pn))) := Lib.hid (by rw [← hie]; exact HPr.out)
                        clear hie
                        obtain ⟨p1, p2, p3, ep1, ep2, ep3, ep4, yp0, yp1, yp2, hlp, HRp⟩ := (HPN2.out).read
                        obtain ⟨s1, s2, s3, es1, es2, es3, es4, ys0, ys1, ys2, hls, HRs⟩ := (HD9.out.kept HKz.out).read
                        go_wp2_with fail
                        refine (HAD.out _ _ _ HRs.out HRp.out).mono ?_
                        rintro e w17 ⟨⟨v17, rfl, hv17⟩, hk17⟩
                        clear yp0 yp1 yp2 hlp HRp
                        clear ys0 ys1 ys2 hls HRs
                        obtain ⟨n5, l5, m5, g1, h1, g2, h2, w18, rfl, hw18, ⟨⟨t0, p0⟩, ⟨t1, q1⟩, ⟨t2, q2⟩⟩, ⟨f0, f1, f2⟩, hl7, _, _, HSN, HKQ⟩ := (HD9.out.kept (HKz.out.trans hk17)).save hv17
                        have HKN := Lib.hid (HKQ.out w6 (HK69.out.trans (HKz.out.trans hk17)) (Nat.le_of_eq HZ6.out))
                        rw [hw18] at HSN HKN
                        clear hv17 hk17 hw18 HKQ
                        go_wp2_with fail
                        go_roundg (M - (k + 1))
                        case measure => omega
                        case rel => exact ⟨k + 1, by omega, by go_num, Nat.le_refl _, HKN, HSN⟩
                · have hke : k = M := by omega
                  have hki : ¬ (k : Int) < (M : Int) := by omega
                  have HGN : Hid (RatCell wo (w5.heap.size + 1) r) := Lib.hid (by rw [HRG.out, ← hke]; exact HGr.out)
                  clear hke
                  obtain ⟨v1, v2, v3, ev1, ev2, ev3, ev4, yv0, yv1, yv2, hlv, HRv⟩ := (HC6.out.kept HKq.out).read
                  obtain ⟨s1, s2, s3, es1, es2, es3, es4, ys0, ys1, ys2, hls, HRs⟩ := (HGN.out).read
                  have hrs : r.Short 3000 := by rw [HRG.out]; exact HGS.out M hM64
                  have HCM : Hid (∀ W u1 u2, RatAt W u1 r → RatAt W u2 r → Calls Tryz.prog 28 #[u1, u2] W fun e w' => e = .returned (.int .i64 0) ∧ Kept W w') := Lib.hid fun W u1 u2 h1 h2 => by
                    have h3 := rcmp_any u1 u2 r r W h1 h2 ⟨Nat.le_trans hrs.1 (by omega), Nat.le_trans hrs.2 (by omega)⟩ ⟨Nat.le_trans hrs.1 (by omega), Nat.le_trans hrs.2 (by omega)⟩
                    rw [Rat.sub_self] at h3
                    exact h3
                  have HPO : Hid (∀ W u, RatAt W u r → Calls Tryz.prog 29 #[u] W fun e w' => e = .returned (.bool true) ∧ Kept W w') := Lib.hid fun W u hu => by
                    have h1 := rprob_any u r W hu ⟨Nat.le_trans hrs.1 (by omega), Nat.le_trans hrs.2 (by omega)⟩
                    rw [HPB.out] at h1
                    exact h1
                  clear hrs
                  go_wp2_with fail
                  refine (HCM.out _ _ _ HRv.out HRs.out).mono ?_
                  rintro e w8 ⟨rfl, hk8⟩
                  have HK8 := Lib.hid (HKw.out.trans hk8)
                  clear yv0 yv1 yv2 hlv HRv
                  clear ys0 ys1 ys2 hls HRs
                  obtain ⟨v1, v2, v3, ev1, ev2, ev3, ev4, yv0, yv1, yv2, hlv, HRv⟩ := (HC6.out.kept (HKq.out.trans hk8)).read
                  clear hk8
                  go_wp2_with fail
                  refine (HPO.out _ _ HRv.out).mono ?_
                  rintro e w9 ⟨rfl, hk9⟩
                  go_wp2
                  go_ret
                  exact ⟨rfl, HK8.out.trans hk9⟩
            · have h7 := fun W => is_any Q 7 hQ0 W
              have h4 := fun W => is_any Q 4 hQ0 W
              have h3 := fun W => is_any Q 3 hQ0 W
              rw [errV_pos hQ0] at HT h7 h4 h3
              obtain ⟨b7, hb7⟩ : ∃ b, b = (Q == 7) := ⟨_, rfl⟩
              obtain ⟨b4, hb4⟩ : ∃ b, b = (Q == 4) := ⟨_, rfl⟩
              obtain ⟨b3, hb3⟩ : ∃ b, b = (Q == 3) := ⟨_, rfl⟩
              rw [← hb7] at h7
              rw [← hb4] at h4
              rw [← hb3] at h3
              have H7 : Hid (∀ W, Calls Tryz.prog 21 #[.iface 45 (.int .i64 Q), .int .i64 7] W fun e w' => e = .returned (.bool b7) ∧ W = w') := Lib.hid h7
              have H4 : Hid (∀ W, Calls Tryz.prog 21 #[.iface 45 (.int .i64 Q), .int .i64 4] W fun e w' => e = .returned (.bool b4) ∧ W = w') := Lib.hid h4
              have H3 : Hid (∀ W, Calls Tryz.prog 21 #[.iface 45 (.int .i64 Q), .int .i64 3] W fun e w' => e = .returned (.bool b3) ∧ W = w') := Lib.hid h3
              have hcs : b7 = true ∨ (b7 = false ∧ b4 = true) ∨ (b7 = false ∧ b4 = false ∧ b3 = true ∧ badR ps = true) := by
                rcases HQC.out with (h | h | ⟨h, hb⟩) | ⟨h, _⟩
                · exact .inr (.inl ⟨by rw [hb7, h]; rfl, by rw [hb4, h]; rfl⟩)
                · exact .inl (by rw [hb7, h]; rfl)
                · exact .inr (.inr ⟨by rw [hb7, h]; rfl, by rw [hb4, h]; rfl, by rw [hb3, h]; rfl, hb⟩)
                · exact absurd h hQ0
              have HBA : Hid (∀ W, Kept w W → Calls Tryz.prog 22 #[.slice pa pn pc] W fun e w' => e = .returned (.bool (badR ps)) ∧ Kept W w') := Lib.hid fun W h => r38bad_any _ ps W (HPV.out.kept h) (fun r hr => ⟨Nat.le_trans (HS3.out r hr).1 (by omega), Nat.le_trans (HS3.out r hr).2 (by omega)⟩)
              clear h7 h4 h3 hb7 hb4 hb3
              go_wp2_with fail
              refine (HT.out _ HK4.out).mono ?_
              rintro e w5 ⟨⟨v5, rfl, hv5⟩, hk5⟩
              obtain ⟨n6, l6, m6, a6, c6, b6, d6, w6, rfl, hw6, _, hk6, _, _⟩ := hv5.box
              have HK6 := Lib.hid (HK4.out.trans (hk5.trans hk6))
              have HW6 := Lib.hid hw6
              clear c0 c1 c2 hv5 hk5 hk6 hw6
              rcases hcs with h7 | ⟨h7, h4⟩ | ⟨h7, h4, h3, hbad⟩
              · subst h7
                go_wp2_with fail
                rw [← HW6.out]
                refine (H7.out _).mono ?_
                rintro e w7 ⟨rfl, rfl⟩
                go_wp2
                go_ret
                exact ⟨rfl, HK6.out⟩
              · subst h7 h4
                go_wp2_with fail
                rw [← HW6.out]
                refine (H7.out _).mono ?_
                rintro e w7 ⟨rfl, rfl⟩
                go_wp2_with fail
                refine (H4.out _).mono ?_
                rintro e w8 ⟨rfl, rfl⟩
                go_wp2
                go_ret
                exact ⟨rfl, HK6.out⟩
              · subst h7 h4 h3
                rw [hbad] at HBA
                clear hbad
                go_wp2_with fail
                rw [← HW6.out]
                refine (H7.out _).mono ?_
                rintro e w7 ⟨rfl, rfl⟩
                go_wp2_with fail
                refine (H4.out _).mono ?_
                rintro e w8 ⟨rfl, rfl⟩
                go_wp2_with fail
                refine (H3.out _).mono ?_
                rintro e w9 ⟨rfl, rfl⟩
                go_wp2_with fail
                refine (HBA.out _ HK6.out).mono ?_
                rintro e w10 ⟨rfl, hk10⟩
                go_wp2
                go_ret
                exact ⟨rfl, HK6.out.trans hk10⟩
          · have hpi : ((pn : Int) != (V : Int)) = true := by simp; omega
            go_wp2_with fail
            refine (HA.out _).mono ?_
            rintro e w5 ⟨rfl, hk5⟩
            go_wp2
            go_ret
            exact ⟨rfl, HK4.out.trans hk5⟩
        · have hv6 : decide ((6 : Int) < (V : Int)) = true := decide_eq_true (by omega)
          go_wp2_with fail
          refine (HA.out _).mono ?_
          rintro e w5 ⟨rfl, hk5⟩
          go_wp2
          go_ret
          exact ⟨rfl, HK4.out.trans hk5⟩
      · rw [errV_pos hq0] at HC
        go_wp2_with fail
        refine (HC.out _ HK3.out).mono ?_
        rintro e w4 ⟨rfl, hk4⟩
        have HK4 := Lib.hid (HK3.out.trans hk4)
        clear c0 c1 c2 hk4
        go_wp2_with fail
        refine (HA.out _).mono ?_
        rintro e w5 ⟨rfl, hk5⟩
        go_wp2
        go_ret
        exact ⟨rfl, HK4.out.trans hk5⟩
end Go.Proofs.YthiemjodcklejaaGreatDoor

/-
  Arguments that are lists of ints, of cubes, of fractions; laws of such arguments: from their walks to their rows' steps.
-/
namespace Go.Proofs.YthiemjodcklejaaGreatDoor
open Go.RowKit Go.ChangeShapes Go.WideShapes Go.ChangeAt Go.Joins Go.Deep

/-- Cubes that can be read, however many. -/
def CbsRaw (w : World) (v : Value) (L : List (Int × Int)) : Prop :=
  ∃ (a : Option Addr) (c : Nat), v = .slice a L.length c ∧ (L.length ≤ c ∧ (a = none → c = 0)) ∧ L.length ≤ 140737488355328 ∧
    ∀ i (h : i < L.length), ∃ b o, a = some ⟨b, o, none⟩ ∧ w.rangeAt b (o + i * 2) (ccells L[i])
section
variable {H : Type} {enc : TypeId × Value → H} {W : World} {base : Nat}
set_option maxRecDepth 100000 in
theorem rats_arg {v : Value} {d : DataW H} {p : List MemPlace} (hv : Value.okWide Tryz.prog W .any base 25 v) (hb : ∀ n ∈ d.weights Tryz.prog 25, n ≤ reachBytes)
    (h : DataW.Trod enc Tryz.prog W 0 (fun _ => true) true 25 v d p) : ∃ xs : List Rw, RatsRaw W v xs := by
  obtain ⟨fuel, h1f⟩ := h
  obtain ⟨u, xs, e3, hps⟩ := rats_open hb h1f
  obtain ⟨a, c, rfl, _⟩ := id hps
  obtain ⟨a2, n2, c2, h5⟩ := okWide_slice Tryz.underlying25 hv
  subst h5
  have e4 : Value.slice a xs.length c = .slice a2 n2 c2 := by simpa [Value.cells] using e3.symm
  rw [← e4]
  exact ⟨xs, hps⟩
end
end Go.Proofs.YthiemjodcklejaaGreatDoor

/-
  Laws of a formula and a list of fractions: from their walks to their rows' steps.
-/
namespace Go.Proofs.YthiemjodcklejaaGreatDoor
open Go.RowKit Go.ChangeShapes Go.WideShapes Go.ChangeAt Go.Joins Go.Deep

set_option maxRecDepth 100000 in
theorem liftFR {s : ChangeSpec} (F : FuncId) (fn : Func) (hs1 : s.vars = []) (hs2 : ∀ (H : Type) (d1 d2 : DataW H), s.fn H [d1, d2] = { results := [.lit (.bool true)], args := [d1, d2] })
    (hp : fn.params = #[24, 25]) (hr : fn.resultTypes = #[4])
    (walk : ∀ (W : World) (u v : Value) (f : Fm) (ps : List Rw), NodesAt W u f.nodes → FmOk f → RatsRaw W v ps → Calls Tryz.prog F #[fmV u f, v] W fun e w' => e = .returned (.bool true) ∧ Kept W w')
    {H : Type} {enc : TypeId × Value → H} (W : World) (base : Nat) (args : Array Value) (ds gs : List (DataW H)) (before : List MemPlace)
    (hval : ∀ (j : Nat) t v, fn.params[j]? = some t → args[j]? = some v → Value.okWide Tryz.prog W .any base t v)
    (hW : DataW.Whole enc Tryz.prog fn.params.toList s.vars false W args.toList ds gs before)
    (hsz : (DataW.weightsEach Tryz.prog (fn.params.toList ++ s.plain.varTypes Tryz.prog) (ds ++ gs)).all (· ≤ reachBytes) = true) :
    Calls Tryz.prog F args W fun e W' => ∃ v, e = .returned v ∧ s.post enc Tryz.prog fn false true false false W args v W' := by
  have hW' := hW
  obtain ⟨p, q, hA, hV, rfl, hfz, _⟩ := hW
  rw [hs1] at hV
  obtain ⟨rfl, rfl⟩ := trodVars_none hV
  rw [hp] at hA hval hsz
  obtain ⟨v0, v1, d0, d1, p0, p1, rfl, rfl, rfl, h0, h1⟩ := trodAll_two hA
  have h0k := h0
  have h1k := h1
  obtain ⟨u, f, rfl, hx, hfo⟩ := fm_open (hval 0 _ _ rfl rfl) (fun n hn => by
    have := List.all_eq_true.1 hsz n (DataW.weights_mem_each (j := 0) rfl rfl n hn)
    simpa using this) h0
  obtain ⟨ps, hps⟩ := rats_arg (hval 1 _ _ rfl rfl) (fun n hn => by
    have := List.all_eq_true.1 hsz n (DataW.weights_mem_each (j := 1) rfl rfl n hn)
    simpa using this) h1
  have hlt : ∀ x ∈ p0 ++ p1, x.block < W.heap.size := fun x hx => hW'.lt x (by simpa using hx)
  refine (walk W u v1 f ps hx hfo hps).mono fun e W' ⟨he, hk⟩ => ?_
  subst he
  refine ⟨_, rfl, [d0, d1], [], (p0 ++ p1) ++ [], [], p0 ++ p1, [], hW', ?_, ?_, ?_, Below.frame hk _, fun h => by cases h⟩
  · rw [hr]
    simp only [List.append_nil, hs2]
    exact trodAll_mk1 (shut_bool Tryz.underlying4 _)
  · rw [hp]
    simp only [List.append_nil, hs2]
    exact trodAll_mk2 (Below.trod laidOutK (by kernel_rfl) (of_decide_eq_true (by kernel_rfl)) h0k hk (fun x hx => hlt x (by simp [hx]))) (Below.trod laidOutK (by kernel_rfl) (of_decide_eq_true (by kernel_rfl)) h1k hk (fun x hx => hlt x (by simp [hx])))
  · rw [hs1]
    simp only [List.append_nil, hs2]
    rfl
end Go.Proofs.YthiemjodcklejaaGreatDoor

/-
  The words of the program's head: read once, without its characters being decoded word by word.
-/
namespace Go.Proofs.YthiemjodcklejaaGreatDoor
open Go.RowKit

def chW (l : List Nat) : List Char := l.map Char.ofNat
theorem ws_word (w r : List Char) (h : ∀ c ∈ w, c ≠ Char.ofNat 32) : wordsSigns (w ++ Char.ofNat 32 :: r) = w :: wordsSigns r := by
  induction w with
  | nil => rfl
  | cons c w ih =>
    have hc : c ≠ Char.ofNat 32 := h c (by simp)
    have ih' := ih fun d hd => h d (List.mem_cons_of_mem _ hd)
    show wordsSigns (c :: (w ++ Char.ofNat 32 :: r)) = _
    rw [wordsSigns.eq_3 _ _ (by intro e; exact hc e), ih']
theorem apart (l : List Nat) (h : ((chW l).all fun c => c != Char.ofNat 32) = true) : ∀ c ∈ chW l, c ≠ Char.ofNat 32 := by
  intro c hc
  simpa using List.all_eq_true.1 h c hc
def wH : List Nat := [104, 97, 114, 110, 101, 115, 115]
def wS : List Nat := [49, 53, 102, 97, 52, 101, 50, 56, 51, 50, 50, 48, 99, 48, 56, 99, 102, 50, 51, 50, 51, 49, 99, 51, 56, 56, 57, 48, 55, 100, 54, 57, 98, 49, 50, 53, 48, 51, 101, 98, 48, 54, 49, 102, 54, 57, 100, 51, 54, 97, 97, 98, 50, 101, 49, 56, 50, 99, 102, 56, 101, 101, 48, 102]
def wC : List Nat := [99, 117, 116]
def wR : List Nat := [97, 116, 32, 102, 97, 117, 108, 116, 108, 105, 110, 101, 47, 102, 97, 117, 108, 116, 108, 105, 110, 101, 108, 97, 119, 51, 56, 46, 68, 105, 115, 106, 111, 105, 110, 116, 84, 111, 112, 115, 32, 102, 97, 117, 108, 116, 108, 105, 110, 101, 47, 102, 97, 117, 108, 116, 108, 105, 110, 101, 108, 97, 119, 51, 56, 46, 68, 105, 115, 106, 111, 105, 110, 116, 69, 120, 97, 99, 116, 32, 102, 97, 117, 108, 116, 108, 105, 110, 101, 47, 102, 97, 117, 108, 116, 108, 105, 110, 101, 108, 97, 119, 52, 48, 46, 69, 115, 97, 114, 121, 80, 114, 111, 100, 117, 99, 116, 115, 32, 102, 97, 117, 108, 116, 108, 105, 110, 101, 47, 102, 97, 117, 108, 116, 108, 105, 110, 101, 108, 97, 119, 52, 48, 46, 69, 115, 97, 114, 121, 66, 111, 117, 110, 100, 115, 32, 102, 97, 117, 108, 116, 108, 105, 110, 101, 47, 102, 97, 117, 108, 116, 108, 105, 110, 101, 108, 97, 119, 52, 48, 46, 69, 115, 97, 114, 121, 76, 105, 107, 101, 108, 105, 101, 115, 116, 32, 102, 97, 117, 108, 116, 108, 105, 110, 101, 47, 102, 97, 117, 108, 116, 108, 105, 110, 101, 108, 97, 119, 52, 48, 46, 69, 115, 97, 114, 121, 82, 105, 115, 101, 115, 32, 102, 97, 117, 108, 116, 108, 105, 110, 101, 47, 102, 97, 117, 108, 116, 108, 105, 110, 101, 108, 97, 119, 52, 48, 46, 69, 115, 97, 114, 121, 65, 112, 97, 114, 116, 32, 102, 97, 117, 108, 116, 108, 105, 110, 101, 47, 102, 97, 117, 108, 116, 108, 105, 110, 101, 108, 97, 119, 52, 48, 46, 69, 115, 97, 114, 121, 69, 110, 99, 108, 111, 115, 101, 115]
theorem pf_order : Tryz.prog.initOrder = String.ofList (chW wH ++ Char.ofNat 32 :: (chW wS ++ Char.ofNat 32 :: (chW wC ++ Char.ofNat 32 :: chW wR))) := by kernel_rfl
theorem pf_words : wordsSigns Tryz.prog.initOrder.toList = chW wH :: chW wS :: chW wC :: wordsSigns (chW wR) := by
  rw [pf_order, String.toList_ofList, ws_word _ _ (apart _ (by kernel_rfl)), ws_word _ _ (apart _ (by kernel_rfl)), ws_word _ _ (apart _ (by kernel_rfl))]
theorem pf_behind : behindMainWord (wordsSigns Tryz.prog.initOrder.toList) = chW wC :: wordsSigns (chW wR) := by
  rw [pf_words]
  generalize wordsSigns (chW wR) = W
  have h : ((chW wH == "harness".toList || chW wH == "ownmain".toList) && isSumSigns (chW wS)) = true := by kernel_rfl
  unfold behindMainWord
  exact if_pos h
theorem pf_later : Tryz.prog.laysLater = false := by kernel_rfl
theorem pf_reflect : Tryz.prog.bearsReflect = false := by kernel_rfl
theorem pf_door : Tryz.prog.doorFits [] = true := by kernel_rfl
theorem pf_strip (W : List (List Char)) : stripLifts liftWords (chW wC :: W) = ([], chW wC :: W) := by kernel_rfl
theorem enter_of {P : Program} {c : List Char} {W : List (List Char)} (h : behindMainWord (wordsSigns P.initOrder.toList) = c :: W) (hs : stripLifts liftWords (c :: W) = ([], c :: W))
    (hc : c = "cut".toList) (hl : P.laysLater = false) (hr : P.bearsReflect = false) (hd : P.doorFits [] = true) : P.mayEnter = true := by
  have hh : ((c :: W).head? == some "cut".toList) = true := by rw [hc]; simp
  unfold Program.mayEnter
  rw [h]
  simp only [hs, hl, hr, hd, hh]
  simp
theorem main_of {P : Program} {h s : List Char} {W : List (List Char)} (hw : wordsSigns P.initOrder.toList = h :: s :: W) (hs : isSumSigns s = true) (hh : (h == "harness".toList) = true) : P.mainIs = some (true, s) := by
  unfold Program.mainIs
  rw [hw]
  simp only [hs, hh]
  rfl
theorem lifts_of {P : Program} {c : List Char} {W : List (List Char)} (h : behindMainWord (wordsSigns P.initOrder.toList) = c :: W) (hs : stripLifts liftWords (c :: W) = ([], c :: W)) : P.headLifts = [] := by
  unfold Program.headLifts
  rw [h, hs]
  dsimp only
  split <;> rfl
theorem final_of {P : Program} {c : List Char} {W : List (List Char)} (h : behindMainWord (wordsSigns P.initOrder.toList) = c :: W) (hl : P.headLifts = []) (hc : (c == "carried".toList) = false) : P.liftsFinal = false := by
  unfold Program.liftsFinal
  rw [h, hl]
  have : ((c :: W).head? == some "carried".toList) = false := by
    rw [Bool.eq_false_iff] at hc ⊢
    intro e; apply hc
    simpa using e
  simp only [this]
  rfl
theorem make_of {P : Program} {c : List Char} {W : List (List Char)} (h : behindMainWord (wordsSigns P.initOrder.toList) = c :: W) (h0 : (c == "gc".toList) = false) (h1 : (c == "spec".toList) = false) (h2 : (c == "cut".toList) = true) : P.make = some .cut := by
  unfold Program.make
  rw [h]
  simp only [h0, h1, h2]
  rfl
theorem wC_cut : chW wC = "cut".toList := by kernel_rfl
theorem pf_enter : Tryz.prog.mayEnter = true := enter_of pf_behind (pf_strip _) wC_cut pf_later pf_reflect pf_door
theorem pf_main : Tryz.prog.mainIs = some (true, "15fa4e283220c08cf23231c388907d69b12503eb061f69d36aab2e182cf8ee0f".toList) :=
  (main_of pf_words (by kernel_rfl) (by kernel_rfl)).trans (congrArg (fun x => some (true, x)) (show chW wS = _ by kernel_rfl))
theorem pf_lifts : Tryz.prog.headLifts = [] := lifts_of pf_behind (pf_strip _)
theorem pf_final : Tryz.prog.liftsFinal = false := final_of pf_behind pf_lifts (by kernel_rfl)
theorem pf_make : Tryz.prog.make = some .cut := make_of pf_behind (by kernel_rfl) (by kernel_rfl) (by kernel_rfl)
end Go.Proofs.YthiemjodcklejaaGreatDoor

/-
  Facts of the program that each lift asks.
-/
namespace Go.Proofs.YthiemjodcklejaaGreatDoor
open Go.RowKit Go.ChangeShapes Go.WideShapes Go.ChangeAt

theorem pf_laidout : (laidOutB Tryz.prog) = true := by kernel_rfl
theorem pf_mapsrowed : (mapsRowed Tryz.prog) = true := by kernel_rfl
theorem pf_stops : ((Tryz.prog.stops == [])) = true := by kernel_rfl
theorem pf_knobs : ((Tryz.prog.stopKnobs == [])) = true := by kernel_rfl
theorem pf_heard : (Tryz.prog.stopsHeard) = true := by kernel_rfl
theorem pf_looks : true = Tryz.pinned.checked.prog.looks [] := by kernel_rfl
end Go.Proofs.YthiemjodcklejaaGreatDoor

/-
  Everything that DisjointExact stands on.
-/
namespace Go.Proofs.YthiemjodcklejaaGreatDoor
theorem ix38 : True := trivial
end Go.Proofs.YthiemjodcklejaaGreatDoor
