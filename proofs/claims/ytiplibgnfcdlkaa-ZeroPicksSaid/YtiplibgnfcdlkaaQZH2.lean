import Derived.Test.YtiplibgnfcdlkaaQZH1
import Derived.Test.YtiplibgnfcdlkaaQ29
/-
  Walk: the reference's add.
-/
namespace Go.Proofs.Ytiplibgnfcdlkaa
open Go.RowKit

/-- Two own slices: one has grown, the other stays. -/
theorem two_app {B : Nat} {wi wA w7 : World} {vp vq v7 : Value} {xs ys : List Int} {y : Int} (hp : OwnInts wi B vp xs) (hq : OwnInts wi B vq ys) (hd : ∀ j, vp.ownBlock = some j → vq.ownBlock ≠ some j) (hkA : Kept wi wA) (hB : B ≤ wi.heap.size)
    (h7 : OwnInts w7 0 v7 (xs ++ [y])) (hf7 : SFrm vp v7 wA w7) : OwnInts w7 B v7 (xs ++ [y]) ∧ OwnInts w7 B vq ys ∧ (∀ j, v7.ownBlock = some j → vq.ownBlock ≠ some j) ∧ ∀ w0 : World, w0.heap.size = B → Kept w0 wi → Kept w0 w7 := by
  have hz := hkA.size
  refine ⟨own_up h7 (hf7.above (by omega) fun k hk => own_base hp hk), ?_, fun j hj e => ?_, fun w0 e hk => hf7.toKept (hk.trans hkA) fun k hk => by rw [e]; exact own_base hp hk⟩
  · have h1 := hq.kept hkA
    exact ⟨own_block h1.1 fun k hk => hf7.block k (h1.blt hk) fun e => hd k e hk, h1.2⟩
  · rcases hf7.own j hj with h | h
    · exact hd j h e
    · have := hq.blt e; omega
theorem idx_first {L : List ZNode} {x : ZNode} {i : Nat} (h : i < L.length) (e : L[i] = x) (hn : ∀ j (hj : j < L.length), j < i → L[j] ≠ x) : x ∈ L ∧ L.idxOf x = i := by
  have hm : x ∈ L := by rw [← e]; exact List.getElem_mem _
  refine ⟨hm, ?_⟩
  have h1 : L.idxOf x < L.length := List.idxOf_lt_length_iff.2 hm
  have h2 : L[L.idxOf x] = x := List.getElem_idxOf h1
  rcases Nat.lt_trichotomy (L.idxOf x) i with h3 | h3 | h3
  · exact absurd h2 (hn _ h1 h3)
  · exact h3
  · have h4 : (L[i] == x) = false := List.not_of_lt_findIdx (p := (· == x)) (xs := L) h3
    rw [e, beq_self_eq_true] at h4
    cases h4
def AddRes (root : Int) (sv : Value) (Z : List ZNode × Nat) (W : World) (e : Ending) (w' : World) : Prop := ∃ a m c, e = .returned (.tuple #[.agg #[.slice a m c, .int .i64 root], .int .i64 (Z.2 : Nat)]) ∧ OwnDns w' (.slice a m c) Z.1 ∧ SFrm sv (.slice a m c) W w'
def RAdd (k : Nat) : Prop := ∀ (W : World) (sv lv : Value) (root : Int) (M : List ZNode) (ns : List Nat), OwnDns W sv M → IntsAt W lv (natI ns) → (∀ n ∈ ns, n < 16777216) → M.length + k * ns.length ≤ 1000000 → ns.length ≤ 100000 →
  Calls Try.prog 81 #[.agg #[sv, .int .i64 root], lv, .int .i64 ((24 - k : Nat) : Int)] W (AddRes root sv (zadd k M (zft ns (24 - k))) W)
set_option maxRecDepth 100000 in
set_option maxHeartbeats 8000000 in
theorem radd_step (k : Nat) (hk24 : k ≤ 24) (ih : ∀ k2, k2 + 1 = k → RAdd k2) : RAdd k := by
  intro W sv lv root M ns hO hL hm hlen hnl
  obtain ⟨i0, hi0, hz0, hz1, hz2⟩ := info_parts info_zn
  have I0 := Lib.hid hi0
  have I1 := Lib.hid hz0
  have I2 := Lib.hid hz1
  have I3 := Lib.hid hz2
  clear hi0 hz0 hz1 hz2
  obtain ⟨sa, sc, rfl, hsc⟩ := hO.shape
  obtain ⟨la, lc, rfl, ⟨hlc, _⟩, _, hlx⟩ := hL
  obtain ⟨n, hn⟩ : ∃ n, n = (natI ns).length := ⟨_, rfl⟩
  have HN : Hid (n = ns.length) := Lib.hid (by rw [hn, natI_len])
  have HLX : Hid (∀ i (h : i < ns.length), ∃ b o, la = some ⟨b, o, none⟩ ∧ W.cell? ⟨b, o + i, none⟩ = some (.int .i64 ((ns[i] : Nat) : Int))) := Lib.hid fun i hi => by
    obtain ⟨b, o, e, hc⟩ := hlx i (by rw [natI_len]; exact hi)
    exact ⟨b, o, e, by simpa [natI] using hc⟩
  obtain ⟨m, hmm⟩ : ∃ m, m = M.length := ⟨_, rfl⟩
  obtain ⟨v, hv⟩ : ∃ v, v = 24 - k := ⟨_, rfl⟩
  obtain ⟨Z, hZ⟩ : ∃ Z, Z = zadd k M (zft ns v) := ⟨_, rfl⟩
  rw [← hn] at hlc ⊢
  rw [← hmm] at hO hsc ⊢
  rw [← hv, ← hZ]
  obtain ⟨w1, hw1⟩ : ∃ w1, w1 = (W.alloc (.cells #[.slice sa m sc, .int .i64 root] 24)).alloc (.cells #[.slice none 0 0, .int .i64 0] 24) := ⟨_, rfl⟩
  obtain ⟨hk1, x0, x1, hr1⟩ := box1 hw1
  have hrow : RowAt w1 W.heap.size 24 [.slice sa m sc, .int .i64 root] := by
    have hx := RowAt.made W #[.slice sa m sc, .int .i64 root] 24
    have hk : Kept (W.alloc (.cells #[.slice sa m sc, .int .i64 root] 24)) w1 := by rw [hw1]; exact (Kept.refl _).alloc _
    exact hx.kept hk
  have hsz1 : w1.heap.size = W.heap.size + 2 := by rw [hw1]; simp
  have HST0 : Hid (∀ w3 w : World, Kept W w → w3.heap.size ≤ w.heap.size → AddSt W w3 w (.slice sa m sc) (.slice sa m sc) M) := Lib.hid fun w3 w hk h3 =>
    ⟨hO.kept hk, SFrm.kept hk _, fun j hj => .inl (by obtain ⟨cur, e⟩ := own_lt hO hj; exact (Array.getElem?_eq_some_iff.1 e).1), h3⟩
  have HEND : Hid (∀ (w3 w : World) (a : Option Addr) (p c : Nat) (Mk : List ZNode) (ref : Int), AddSt W w3 w (.slice sa m sc) (.slice a p c) Mk → W.heap.size + 1 < w3.heap.size → Z.1 = Mk → ref = (Z.2 : Nat) →
      AddRes root (.slice sa m sc) Z W (.returned (.tuple #[.agg #[.slice a p c, .int .i64 root], .int .i64 ref])) ((w.setCell ⟨W.heap.size + 1, 0, none⟩ (.slice a p c)).setCell ⟨W.heap.size + 1, 1, none⟩ (.int .i64 root))) := Lib.hid fun w3 w a p c Mk ref hs h3 e1 e2 => by
    have := (hs.store (g := W.heap.size + 1) (by omega) h3 0 (.slice a p c)).store (g := W.heap.size + 1) (by omega) h3 1 (.int .i64 root)
    rw [e2]
    exact ⟨a, p, c, rfl, by rw [e1]; exact this.own, this.frm⟩
  have HK1 := Lib.hid hk1
  have HW1 := Lib.hid hw1
  have HR1 := Lib.hid hr1
  have HROW := Lib.hid hrow
  have HSZ1 := Lib.hid hsz1
  have HMM := Lib.hid hm
  have HLEN := Lib.hid hlen
  have HNL := Lib.hid hnl
  have HZ := Lib.hid hZ
  have HM := Lib.hid hmm
  have HIH := Lib.hid ih
  have HV := Lib.hid hv
  have hnb : n ≤ 100000 := by rw [HN.out]; exact hnl
  have hvb : v ≤ 24 := by omega
  obtain ⟨c0, c1, f0, f1⟩ := hr1.cells
  clear hO hlx hm hlen hnl hZ hmm hn hk1 hw1 hr1 hrow hsz1 ih hv
  by_cases hn0 : n = 0
  · have hnb0 : ((n : Int) == 0) = true := by rw [hn0]; rfl
    have HE : Hid (Z.1 = M ∧ (0 : Int) = (Z.2 : Nat)) := Lib.hid (by
      have : ns = [] := List.eq_nil_of_length_eq_zero (by rw [← HN.out]; exact hn0)
      rw [HZ.out, this, zft_nil, zadd_none]; exact ⟨rfl, rfl⟩)
    clear hn0
    go_enter Try.func81, Try.ntmps81
    go_upto_region 1 with fail
    rw [← HW1.out]
    go_wp2_with fail
    obtain ⟨y0, y1⟩ := HR1.out.after (.slice sa m sc) (.int .i64 root)
    refine bodyPost_ret (v := .tuple #[.agg #[.slice sa m sc, .int .i64 root], .int .i64 0]) (by simp [results, Try.results81, go_sem, y0, y1]) rfl ?_
    exact HEND.out w1 w1 _ _ _ M 0 (HST0.out w1 w1 HK1.out (Nat.le_refl _)) (by have := HSZ1.out; omega) HE.out.1 HE.out.2
  have hnb0 : ((n : Int) == 0) = false := beq_eq_false_iff_ne.2 (by omega)
  have HNE : Hid (ns ≠ []) := Lib.hid (fun e => hn0 (by rw [HN.out, e]; rfl))
  clear hn0
  cases k with
  | zero =>
    have hv24 : v = 24 := by rw [HV.out]
    have hvb0 : ((v : Int) == 24) = true := by rw [hv24]; rfl
    have HE : Hid (Z.1 = M ∧ (1 : Int) = (Z.2 : Nat)) := Lib.hid (by
      rw [HZ.out, zadd, hv24, if_pos (zft_end HMM.out HNE.out)]; exact ⟨rfl, rfl⟩)
    clear hv24
    go_enter Try.func81, Try.ntmps81
    go_upto_region 1 with fail
    rw [← HW1.out]
    go_wp2_with fail
    obtain ⟨y0, y1⟩ := HR1.out.after (.slice sa m sc) (.int .i64 root)
    refine bodyPost_ret (v := .tuple #[.agg #[.slice sa m sc, .int .i64 root], .int .i64 1]) (by simp [results, Try.results81, go_sem, y0, y1]) rfl ?_
    exact HEND.out w1 w1 _ _ _ M 1 (HST0.out w1 w1 HK1.out (Nat.le_refl _)) (by have := HSZ1.out; omega) HE.out.1 HE.out.2
  | succ k =>
    have hv23 : v = 23 - k := by rw [HV.out]; omega
    have HV23 := Lib.hid hv23
    have hvb0 : ((v : Int) == 24) = false := beq_eq_false_iff_ne.2 (by omega)
    have hv0 : (0 : Int) ≤ (v : Int) := by omega
    have hv64 : (v : Int) < 64 := by omega
    have ev : (v : Int) + 1 = ((v + 1 : Nat) : Int) := by omega
    obtain ⟨v1, hv1⟩ : ∃ x, x = v + 1 := ⟨_, rfl⟩
    rw [← hv1] at ev
    have hv1b : v1 ≤ 24 := by omega
    have HV1 : Hid (v1 = 24 - k ∧ v1 = v + 1) := Lib.hid (by omega)
    have HBV : Hid (∀ s : Nat, s < 16777216 → (bits .and .i64 ((s : Int) / 2 ^ v) 1 == 1) = s.testBit v) := Lib.hid fun s hs => zbit_val s v hs
    clear hv23 hv1
    go_enter Try.func81, Try.ntmps81
    go_upto_region 1 with fail
    rw [← HW1.out]
    clear x0 x1 c0 c1 f0 f1
    go_wp2_with fail
    go_loopg [8, 9, 10] n (fun kx s8 s9 s10 wr => ∃ (i p q cp cq : Nat) (bp bq : Option Addr), s8 = .slice bp p cp ∧ s9 = .slice bq q cq ∧ s10 = .int .i64 i ∧ i ≤ n ∧ n - i ≤ kx ∧ p ≤ i ∧ q ≤ i ∧ p ≤ cp ∧ q ≤ cq ∧ Hid (OwnInts wr w1.heap.size (.slice bp p cp) (natI ((ns.take i).filter fun s => !s.testBit v))) ∧ Hid (OwnInts wr w1.heap.size (.slice bq q cq) (natI ((ns.take i).filter fun s => s.testBit v))) ∧ Hid (∀ j, (Value.slice bp p cp).ownBlock = some j → (Value.slice bq q cq).ownBlock ≠ some j) ∧ Hid (Kept w1 wr))
    case atStart => exact ⟨0, 0, 0, 0, 0, none, none, rfl, rfl, by first | rfl | go_num, Nat.zero_le _, by omega, by omega, by omega, by omega, by omega, Lib.hid (OwnInts.nil _ _), Lib.hid (OwnInts.nil _ _), Lib.hid (fun j e => by cases e), Lib.hid (Kept.refl _)⟩
    case round =>
      obtain ⟨i, p, q, cp, cq, bp, bq, rfl, rfl, rfl, hi, hix, hpi, hqi, hpc, hqc, HP, HQ, HD, HKr⟩ := hrel
      obtain ⟨wi, rfl⟩ : ∃ wi : World, wi = wr := ⟨_, rfl⟩
      by_cases hlt : i < n
      · have hlti : (i : Int) < (n : Int) := by omega
        have hi00 : (0 : Int) ≤ (i : Int) := by omega
        have hil : i < ns.length := by rw [← HN.out]; exact hlt
        obtain ⟨bx, ox, rfl, px⟩ := HLX.out i hil
        obtain ⟨s, hs⟩ : ∃ s, s = ns[i] := ⟨_, rfl⟩
        rw [← hs] at px
        have hs24 : s < 16777216 := by rw [hs]; exact HMM.out _ (List.getElem_mem _)
        have hbv := HBV.out s hs24
        have q1 := (HK1.out.trans HKr.out).cell px
        have HTK : Hid (ns.take (i + 1) = ns.take i ++ [s]) := Lib.hid (by rw [List.take_succ_eq_append_getElem hil, hs])
        have HCA : Hid ((wi.alloc (.cells #[.int .i64 (s : Nat)] 3)).cell? ⟨wi.heap.size, 0, none⟩ = some (.int .i64 (s : Nat))) := Lib.hid (by simp)
        have HKA : Hid (Kept wi (wi.alloc (.cells #[.int .i64 (s : Nat)] 3))) := Lib.hid ((Kept.refl _).alloc _)
        clear hs hil px
        cases hbit : s.testBit v with
        | true =>
          rw [hbit] at hbv
          have HF1 : Hid ((ns.take (i + 1)).filter (fun s => !s.testBit v) = (ns.take i).filter fun s => !s.testBit v) := Lib.hid (by rw [HTK.out, List.filter_append]; simp [hbit])
          have HF2 : Hid (natI ((ns.take (i + 1)).filter fun s => s.testBit v) = natI ((ns.take i).filter fun s => s.testBit v) ++ [(s : Int)]) := Lib.hid (by rw [HTK.out, List.filter_append, natI_app]; simp [hbit]; rfl)
          have HLQ : Hid ((natI ((ns.take i).filter fun s => s.testBit v)).length < 17592186044416) := Lib.hid (by rw [natI_len]; have := List.length_filter_le (fun s => s.testBit v) (ns.take i); rw [List.length_take] at this; omega)
          have HLQ2 : Hid ((natI ((ns.take i).filter fun s => s.testBit v) ++ [(s : Int)]).length = q + 1) := Lib.hid (by
            rw [List.length_append]
            have h9 := own_shape HQ.out rfl
            obtain ⟨_, _, e9, _⟩ := h9
            cases e9
            rfl)
          clear hbit
          go_wp2_with (at_builtin; (refine app_sf rfl _ _ rfl (.slice bq q cq) (natI ((ns.take i).filter fun s => s.testBit v)) rfl ((HQ.out.mono (Nat.zero_le _)).kept HKA.out) ⟨wi.heap.size, 0, none⟩ (s : Int) rfl HCA.out HLQ.out ?_); intro v7 w7 hown7 hf7; obtain ⟨b7, c7, rfl, hc7⟩ := own_shape hown7 HLQ2.out; have HT7 := Lib.hid (two_app HQ.out HP.out (fun j e1 e2 => HD.out j e2 e1) HKA.out HKr.out.size hown7 hf7); clear hown7 hf7)
          go_roundg (n - (i + 1))
          case measure => omega
          case rel => exact ⟨i + 1, p, q + 1, cp, c7, bp, b7, rfl, rfl, by go_num, by omega, Nat.le_refl _, by omega, by omega, hpc, hc7, Lib.hid (by rw [HF1.out]; exact HT7.out.2.1), Lib.hid (by rw [HF2.out]; exact HT7.out.1), Lib.hid (fun j e1 e2 => HT7.out.2.2.1 j e2 e1), Lib.hid (HT7.out.2.2.2 w1 rfl HKr.out)⟩
        | false =>
          rw [hbit] at hbv
          have HF1 : Hid ((ns.take (i + 1)).filter (fun s => s.testBit v) = (ns.take i).filter fun s => s.testBit v) := Lib.hid (by rw [HTK.out, List.filter_append]; simp [hbit])
          have HF2 : Hid (natI ((ns.take (i + 1)).filter fun s => !s.testBit v) = natI ((ns.take i).filter fun s => !s.testBit v) ++ [(s : Int)]) := Lib.hid (by rw [HTK.out, List.filter_append, natI_app]; simp [hbit]; rfl)
          have HLQ : Hid ((natI ((ns.take i).filter fun s => !s.testBit v)).length < 17592186044416) := Lib.hid (by rw [natI_len]; have := List.length_filter_le (fun s => !s.testBit v) (ns.take i); rw [List.length_take] at this; omega)
          have HLQ2 : Hid ((natI ((ns.take i).filter fun s => !s.testBit v) ++ [(s : Int)]).length = p + 1) := Lib.hid (by
            rw [List.length_append]
            have h9 := own_shape HP.out rfl
            obtain ⟨_, _, e9, _⟩ := h9
            cases e9
            rfl)
          clear hbit
          go_wp2_with (at_builtin; (refine app_sf rfl _ _ rfl (.slice bp p cp) (natI ((ns.take i).filter fun s => !s.testBit v)) rfl ((HP.out.mono (Nat.zero_le _)).kept HKA.out) ⟨wi.heap.size, 0, none⟩ (s : Int) rfl HCA.out HLQ.out ?_); intro v7 w7 hown7 hf7; obtain ⟨b7, c7, rfl, hc7⟩ := own_shape hown7 HLQ2.out; have HT7 := Lib.hid (two_app HP.out HQ.out HD.out HKA.out HKr.out.size hown7 hf7); clear hown7 hf7)
          go_roundg (n - (i + 1))
          case measure => omega
          case rel => exact ⟨i + 1, p + 1, q, c7, cq, b7, bq, rfl, rfl, by go_num, by omega, Nat.le_refl _, by omega, by omega, hc7, hqc, Lib.hid (by rw [HF2.out]; exact HT7.out.1), Lib.hid (by rw [HF1.out]; exact HT7.out.2.1), Lib.hid HT7.out.2.2.1, Lib.hid (HT7.out.2.2.2 w1 rfl HKr.out)⟩
      · have hlti : ¬ (i : Int) < (n : Int) := by omega
        have hin : i = ns.length := by rw [← HN.out]; omega
        obtain ⟨A, hA⟩ : ∃ A, A = ns.filter fun s => !s.testBit v := ⟨_, rfl⟩
        obtain ⟨B, hB⟩ : ∃ B, B = ns.filter fun s => s.testBit v := ⟨_, rfl⟩
        have hp1 := HP.out
        have hq1 := HQ.out
        rw [hin, List.take_length, ← hA] at hp1
        rw [hin, List.take_length, ← hB] at hq1
        have hab : A.length + B.length = ns.length := by rw [hA, hB]; exact filter_len ns v
        have hA24 : ∀ x ∈ A, x < 16777216 := fun x hx => HMM.out x (by rw [hA] at hx; exact (List.mem_filter.1 hx).1)
        have hB24 : ∀ x ∈ B, x < 16777216 := fun x hx => HMM.out x (by rw [hB] at hx; exact (List.mem_filter.1 hx).1)
        obtain ⟨Z1, hZ1⟩ : ∃ Z1, Z1 = zadd k M (zft A v1) := ⟨_, rfl⟩
        obtain ⟨Z2, hZ2⟩ : ∃ Z2, Z2 = zadd k Z1.1 (zft B v1) := ⟨_, rfl⟩
        have hZZ : Z = zput Z2.1 ⟨v, Z1.2, Z2.2⟩ := by
          rw [HZ.out, zadd]
          simp only [← HV23.out, zft_lo, zft_hi]
          rw [← HV1.out.2, ← hA, ← hB, ← hZ1, ← hZ2]
        have hfl1 : Z1.1.length ≤ M.length + k * A.length := by rw [hZ1, HV1.out.1]; exact zadd_flen k (by omega) M A
        have hfl2 : Z2.1.length ≤ Z1.1.length + k * B.length := by rw [hZ2, HV1.out.1]; exact zadd_flen k (by omega) Z1.1 B
        have hsum : k * A.length + k * B.length ≤ (k + 1) * ns.length := by rw [← Nat.mul_add, hab]; exact Nat.mul_le_mul_right _ (by omega)
        have hlen := HLEN.out
        have hnl := HNL.out
        have HC1 : Hid (∀ w sv lv, OwnDns w sv M → IntsAt w lv (natI A) → Calls Try.prog 81 #[.agg #[sv, .int .i64 root], lv, .int .i64 (v1 : Nat)] w (AddRes root sv Z1 w)) := Lib.hid fun w sv lv h1 h2 => by
          have := HIH.out k rfl w sv lv root M A h1 h2 hA24 (by omega) (by omega)
          rwa [← HV1.out.1, ← hZ1] at this
        have HC2 : Hid (∀ w sv lv, OwnDns w sv Z1.1 → IntsAt w lv (natI B) → Calls Try.prog 81 #[.agg #[sv, .int .i64 root], lv, .int .i64 (v1 : Nat)] w (AddRes root sv Z2 w)) := Lib.hid fun w sv lv h1 h2 => by
          have := HIH.out k rfl w sv lv root Z1.1 B h1 h2 hB24 (by omega) (by omega)
          rwa [← HV1.out.1, ← hZ2] at this
        have HZZ := Lib.hid hZZ
        have hL2 : Z2.1.length ≤ 1000000 := by omega
        have HL2 := Lib.hid hL2
        have HA := Lib.hid hp1
        have HB := Lib.hid hq1
        have hst := HST0.out wi wi (HK1.out.trans HKr.out) (Nat.le_refl _)
        have HST := Lib.hid hst
        have HSW : Hid (W.heap.size + 1 < wi.heap.size) := Lib.hid (by have := HKr.out.size; have := HSZ1.out; omega)
        have hr3 := HROW.out.kept HKr.out
        have HR3 := Lib.hid hr3
        have d0 := hr3.cell (i := 0) (by simp)
        have d1 := hr3.cell (i := 1) (by simp)
        simp only [List.getElem_cons_succ, List.getElem_cons_zero] at d0 d1
        have HCL := Lib.hid (HC1.out wi _ _ hst.own hp1.ints)
        have HR6 := Lib.hid (HR1.out.kept HKr.out)
        clear hin hA hB hp1 hq1 hab hA24 hB24 hZ1 hZ2 hZZ hfl1 hfl2 hsum hlen hnl hL2 hst hr3
        go_upto_region 12 with fail
        go_wp2_with fail
        refine HCL.out.mono ?_
        rintro e w4 ⟨a4, m4, c4, rfl, ho4, hf4⟩
        have hr4 := HR3.out.same (HST.out.raw hf4 (Nat.le_refl _) (by have := HSW.out; omega))
        have hr64 : ResCell w4 (W.heap.size + 1) := ⟨HR6.out.row.same (HST.out.raw hf4 (Nat.le_succ _) HSW.out), (HST.out.raw hf4 (Nat.le_succ _) HSW.out).trans HR6.out.raw⟩
        have hs4 := HST.out.call ho4 hf4
        have hb4 : OwnInts w4 w1.heap.size (.slice bq q cq) (natI B) := ⟨own_block HB.out.1 fun j hj => HST.out.raw hf4 (by have := own_base HB.out hj; have := HSZ1.out; omega) (HB.out.blt hj), HB.out.2⟩
        obtain ⟨w5, hw5⟩ : ∃ w5, w5 = (w4.setCell ⟨W.heap.size, 0, none⟩ (.slice a4 m4 c4)).setCell ⟨W.heap.size, 1, none⟩ (.int .i64 root) := ⟨_, rfl⟩
        have hr5 : RowAt w5 W.heap.size 24 [.slice a4 m4 c4, .int .i64 root] := by
          rw [hw5]
          have := (hr4.store 0 (.slice a4 m4 c4)).store 1 (.int .i64 root)
          simpa using this
        have hr65 : ResCell w5 (W.heap.size + 1) := by
          rw [hw5]
          refine ⟨(hr64.row.other (by omega) 0 _).other (by omega) 1 _, ?_⟩
          exact (Below.heap_setCell _ _ _ _ (by show W.heap.size + 1 ≠ W.heap.size; omega)).trans ((Below.heap_setCell _ _ _ _ (by show W.heap.size + 1 ≠ W.heap.size; omega)).trans hr64.raw)
        have hs5 : AddSt W wi w5 (.slice sa m sc) (.slice a4 m4 c4) Z1.1 := by
          rw [hw5]
          exact (hs4.store (Nat.le_refl _) (by have := HSW.out; omega) 0 _).store (Nat.le_refl _) (by have := HSW.out; omega) 1 _
        have hb5 : OwnInts w5 w1.heap.size (.slice bq q cq) (natI B) := by
          rw [hw5]
          refine ⟨own_block hb4.1 fun j hj => ?_, hb4.2⟩
          have hj1 := own_base hb4 hj
          have hj2 := HSZ1.out
          exact (Below.heap_setCell _ _ _ _ (by show j ≠ W.heap.size; omega)).trans (Below.heap_setCell _ _ _ _ (by show j ≠ W.heap.size; omega))
        have e0 := hr4.cell (i := 0) (by simp)
        have e1 := hr4.cell (i := 1) (by simp)
        simp only [List.getElem_cons_succ, List.getElem_cons_zero] at e0 e1
        have g0 := hr4.free 0
        have g1 := hr4.free 1
        have HW5 := Lib.hid hw5
        have HR5 := Lib.hid hr5
        have HR65 := Lib.hid hr65
        have HS5 := Lib.hid hs5
        have HCL2 := Lib.hid (HC2.out w5 _ _ hs5.own hb5.ints)
        clear ho4 hf4 hr4 hr64 hs4 hb4 hw5 hr65 hs5 hb5 d0 d1
        go_upto_region 13 with fail
        rw [← HW5.out]
        clear e0 e1 g0 g1
        have d0 := hr5.cell (i := 0) (by simp)
        have d1 := hr5.cell (i := 1) (by simp)
        simp only [List.getElem_cons_succ, List.getElem_cons_zero] at d0 d1
        clear hr5
        go_wp2_with fail
        refine HCL2.out.mono ?_
        rintro e w6 ⟨a6, m6, c6, rfl, ho6, hf6⟩
        have hr6 := HR5.out.same (HS5.out.raw hf6 (Nat.le_refl _) (by have := HSW.out; omega))
        have hr66 : ResCell w6 (W.heap.size + 1) := ⟨HR65.out.row.same (HS5.out.raw hf6 (Nat.le_succ _) HSW.out), (HS5.out.raw hf6 (Nat.le_succ _) HSW.out).trans HR65.out.raw⟩
        have hs6 := HS5.out.call ho6 hf6
        obtain ⟨w7, hw7⟩ : ∃ w7, w7 = (w6.setCell ⟨W.heap.size, 0, none⟩ (.slice a6 m6 c6)).setCell ⟨W.heap.size, 1, none⟩ (.int .i64 root) := ⟨_, rfl⟩
        have hr7 : RowAt w7 W.heap.size 24 [.slice a6 m6 c6, .int .i64 root] := by
          rw [hw7]
          have := (hr6.store 0 (.slice a6 m6 c6)).store 1 (.int .i64 root)
          simpa using this
        have hr67 : ResCell w7 (W.heap.size + 1) := by
          rw [hw7]
          refine ⟨(hr66.row.other (by omega) 0 _).other (by omega) 1 _, ?_⟩
          exact (Below.heap_setCell _ _ _ _ (by show W.heap.size + 1 ≠ W.heap.size; omega)).trans ((Below.heap_setCell _ _ _ _ (by show W.heap.size + 1 ≠ W.heap.size; omega)).trans hr66.raw)
        have hs7 : AddSt W wi w7 (.slice sa m sc) (.slice a6 m6 c6) Z2.1 := by
          rw [hw7]
          exact (hs6.store (Nat.le_refl _) (by have := HSW.out; omega) 0 _).store (Nat.le_refl _) (by have := HSW.out; omega) 1 _
        have hm6 : m6 = Z2.1.length := by
          obtain ⟨_, _, e9, _⟩ := hs7.own.shape
          cases e9; rfl
        have e0 := hr6.cell (i := 0) (by simp)
        have e1 := hr6.cell (i := 1) (by simp)
        simp only [List.getElem_cons_succ, List.getElem_cons_zero] at e0 e1
        have g0 := hr6.free 0
        have g1 := hr6.free 1
        have HW7 := Lib.hid hw7
        have HR7 := Lib.hid hr7
        have HR67 := Lib.hid hr67
        have HS7 := Lib.hid hs7
        have HM6 := Lib.hid hm6
        obtain ⟨ra, hra⟩ : ∃ r, r = Z1.2 := ⟨_, rfl⟩
        obtain ⟨rb, hrb⟩ : ∃ r, r = Z2.2 := ⟨_, rfl⟩
        rw [← hra, ← hrb] at HZZ
        rw [← hra, ← hrb]
        clear ho6 hf6 hr6 hr66 hs6 hw7 hr67 hs7 hm6 d0 d1 hra hrb
        go_upto_region 14 with fail
        rw [← HW7.out]
        clear e0 e1 g0 g1
        have d0 := hr7.cell (i := 0) (by simp)
        have d1 := hr7.cell (i := 1) (by simp)
        simp only [List.getElem_cons_succ, List.getElem_cons_zero] at d0 d1
        clear hr7
        by_cases hb0 : rb = 0
        · have hbb : ((rb : Int) == 0) = true := by rw [hb0]; rfl
          have HE : Hid (Z.1 = Z2.1 ∧ (ra : Int) = (Z.2 : Nat)) := Lib.hid (by rw [HZZ.out, zput, if_pos hb0]; exact ⟨rfl, rfl⟩)
          obtain ⟨c0, c1, f0, f1⟩ := HR67.out.cells
          clear hb0
          go_wp2_with fail
          obtain ⟨y0, y1⟩ := HR67.out.after (.slice a6 m6 c6) (.int .i64 root)
          refine bodyPost_ret (v := .tuple #[.agg #[.slice a6 m6 c6, .int .i64 root], .int .i64 (ra : Nat)]) (by simp [results, Try.results81, go_sem, y0, y1]) rfl ?_
          exact HEND.out wi w7 _ _ _ Z2.1 ra HS7.out HSW.out HE.out.1 HE.out.2
        have hbb : ((rb : Int) == 0) = false := beq_eq_false_iff_ne.2 (by omega)
        have HB0 := Lib.hid hb0
        clear hb0
        obtain ⟨w8, hw8⟩ : ∃ w8, w8 = w7.alloc (.cells #[.int .i64 v, .int .i64 ra, .int .i64 rb] 63) := ⟨_, rfl⟩
        have hk8 : Kept w7 w8 := by rw [hw8]; exact (Kept.refl _).alloc _
        have hx8 : RowAt w8 w7.heap.size 63 [.int .i64 v, .int .i64 ra, .int .i64 rb] := by rw [hw8]; exact RowAt.made w7 #[.int .i64 v, .int .i64 ra, .int .i64 rb] 63
        have m0 := hx8.cell (i := 0) (by simp)
        have m1 := hx8.cell (i := 1) (by simp)
        have m2 := hx8.cell (i := 2) (by simp)
        simp only [List.getElem_cons_succ, List.getElem_cons_zero] at m0 m1 m2
        have HW8 := Lib.hid hw8
        have HMC := Lib.hid (And.intro m0 (And.intro m1 m2))
        have HS8 := Lib.hid (HS7.out.kept hk8)
        have HR68 := Lib.hid (HR67.out.kept hk8)
        have HR8 := Lib.hid (HR7.out.kept hk8)
        have hm6b : m6 ≤ 1000000 := by rw [HM6.out]; exact HL2.out
        obtain ⟨hm6c, _⟩ : m6 ≤ c6 ∧ True := by
          obtain ⟨_, _, e9, h9⟩ := HS7.out.own.shape
          cases e9; exact ⟨h9, trivial⟩
        clear hw8 hx8
        go_upto_region 17 with fail
        rw [← HW8.out]
        have e0 := hk8.cell d0
        clear d0 d1 hk8
        go_wp2_with fail
        clear e0 m0 m1 m2
        go_loopg [14] m6 (fun kx s14 wr => ∃ j : Nat, s14 = .int .i64 j ∧ j ≤ m6 ∧ m6 - j ≤ kx ∧ Hid (∀ t (ht : t < Z2.1.length), t < j → Z2.1[t] ≠ ⟨v, ra, rb⟩) ∧ Hid (Kept w8 wr))
        case atStart => exact ⟨0, by first | rfl | go_num, Nat.zero_le _, by omega, Lib.hid (fun t _ h => by omega), Lib.hid (Kept.refl _)⟩
        case round =>
          obtain ⟨j, rfl, hj, hjx, HT, HKj⟩ := hrel
          obtain ⟨wj, rfl⟩ : ∃ wj : World, wj = wr := ⟨_, rfl⟩
          have hrj := HR8.out.kept HKj.out
          have d0 := hrj.cell (i := 0) (by simp)
          have d1 := hrj.cell (i := 1) (by simp)
          simp only [List.getElem_cons_succ, List.getElem_cons_zero] at d0 d1
          by_cases hjm : j < m6
          · have hjmi : (j : Int) < (m6 : Int) := by omega
            have hj0 : (0 : Int) ≤ (j : Int) := by omega
            have hjL : j < Z2.1.length := by rw [← HM6.out]; exact hjm
            have kk := HKj.out.drew
            have hdns := own_dns (HS8.out.own.kept kk) (by have := HL2.out; omega)
            obtain ⟨b9, o9, rfl, u0, u1, u2⟩ := DnsAt.read hdns j (by rw [List.length_map]; exact hjL)
            rw [List.getElem_map] at u0 u1 u2
            have k0 := (Kept.refl wj).drew.cell d0
            have k1 := (Kept.refl wj).drew.cell d1
            have n0 := kk.cell HMC.out.1
            have n1 := kk.cell HMC.out.2.1
            have n2 := kk.cell HMC.out.2.2
            obtain ⟨y, hy⟩ : ∃ y, y = zi Z2.1[j] := ⟨_, rfl⟩
            rw [← hy] at u0 u1 u2
            obtain ⟨c0, c1, f0, f1⟩ := (HR68.out.kept kk).cells
            have HRJ := Lib.hid (HR68.out.kept kk)
            have HSJ := Lib.hid (HS8.out.kept kk)
            by_cases hxy : y = ⟨v, ra, rb⟩
            · have hxe : Z2.1[j] = ⟨v, ra, rb⟩ := zi_inj (by rw [← hy, hxy]; rfl)
              have hix := idx_first hjL hxe fun t ht htj => HT.out t ht htj
              have e2j : (2 : Int) + (j : Int) = ((2 + j : Nat) : Int) := by omega
              obtain ⟨j2, hj2⟩ : ∃ x, x = 2 + j := ⟨_, rfl⟩
              rw [← hj2] at e2j
              have hj2b : j2 ≤ 2000000 := by omega
              have HE : Hid (Z.1 = Z2.1 ∧ (j2 : Int) = (Z.2 : Nat)) := Lib.hid (by rw [HZZ.out, zput, if_neg HB0.out, if_pos hix.1, hix.2, hj2]; exact ⟨rfl, rfl⟩)
              subst hxy
              simp only at u0 u1 u2
              clear hy hjL kk hdns hxe hix hj2
              go_upto_region 20 with fail
              go_region
              all_goals
                generalize hwd : World.drew wj = wd at *
                clear hwd
                go_wp2_with fail
                obtain ⟨y0, y1⟩ := HRJ.out.after (.slice (some ⟨b9, o9, none⟩) m6 c6) (.int .i64 root)
                refine bodyPost_ret (v := .tuple #[.agg #[.slice (some ⟨b9, o9, none⟩) m6 c6, .int .i64 root], .int .i64 (j2 : Nat)]) (by simp [results, Try.results81, go_sem, y0, y1]) rfl ?_
                exact HEND.out wi wd _ _ _ Z2.1 j2 HSJ.out HSW.out HE.out.1 HE.out.2
            · have HT2 : Hid (∀ t (ht : t < Z2.1.length), t < j + 1 → Z2.1[t] ≠ ⟨v, ra, rb⟩) := Lib.hid fun t ht htj => by
                by_cases e : t = j
                · subst e
                  intro e
                  exact hxy (by rw [hy, e]; rfl)
                · exact HT.out t ht (by omega)
              obtain ⟨yv, yl, yh⟩ := y
              have hne := node_ne hxy
              simp only at u0 u1 u2 hne
              clear hy hjL kk hdns hxy c0 c1 f0 f1
              rcases hne with b0 | ⟨rfl, b0⟩ | ⟨rfl, rfl, b0⟩
              all_goals
                go_upto_region 20 with fail
                go_region
                all_goals
                  go_wp2_with fail
                  go_roundg (m6 - (j + 1))
                  case measure => omega
                  case rel => exact ⟨j + 1, by go_num, by omega, Nat.le_refl _, HT2, Lib.hid HKj.out.drew⟩
          · have hjmi : ¬ (j : Int) < (m6 : Int) := by omega
            have hnot : (⟨v, ra, rb⟩ : ZNode) ∉ Z2.1 := fun h => by
              obtain ⟨t, ht, e⟩ := List.mem_iff_getElem.1 h
              exact HT.out t ht (by have := HM6.out; omega) e
            have em1 : (m6 : Int) + 1 = ((m6 + 1 : Nat) : Int) := by omega
            have HE : Hid (Z.1 = Z2.1 ++ [⟨v, ra, rb⟩] ∧ (1 : Int) + ((m6 : Int) + 1) = (Z.2 : Nat)) := Lib.hid (by
              rw [HZZ.out, zput, if_neg HB0.out, if_neg hnot]
              exact ⟨rfl, by show _ = ((2 + Z2.1.length : Nat) : Int); rw [← HM6.out]; omega⟩)
            have n0 := HKj.out.cell HMC.out.1
            have n1 := HKj.out.cell HMC.out.2.1
            have n2 := HKj.out.cell HMC.out.2.2
            have fz0 := hrj.free 0
            have hlt3 := hrj.lt
            have HSJ := Lib.hid (HS8.out.kept HKj.out)
            have HRJ := Lib.hid hrj
            have HR6J := Lib.hid (HR68.out.kept HKj.out)
            obtain ⟨w9, hw9⟩ : ∃ w9, w9 = wj.alloc (.cells #[.int .i64 v, .int .i64 ra, .int .i64 rb] 63) := ⟨_, rfl⟩
            have hk9 : Kept wj w9 := by rw [hw9]; exact (Kept.refl _).alloc _
            have HW9 := Lib.hid hw9
            have HK9 := Lib.hid hk9
            have HO9 : Hid (w9.ownsRow 0 63 3 (.slice a6 m6 c6) m6 (Z2.1.flatMap znC)) := Lib.hid (by
              have h9 := HSJ.out.own.kept hk9
              unfold OwnDns at h9
              rw [← HM6.out] at h9
              exact h9)
            have HN9 : Hid (∀ t u, [Value.int .i64 (v : Nat), .int .i64 (ra : Nat), .int .i64 (rb : Nat)][t]? = some u → w9.cell? ((⟨wj.heap.size, 0, none⟩ : Addr).add t) = some u) := Lib.hid (by rw [hw9]; exact World.news_of_block (cs := #[.int .i64 (v : Nat), .int .i64 (ra : Nat), .int .i64 (rb : Nat)]) (t := 63) (fr := (0, 0)) (heap_alloc_new wj _))
            have HZ9 : Hid (w9.heap.size = wj.heap.size + 1) := Lib.hid (by rw [hw9]; simp)
            have c9 := hk9.cell d0
            have z9 := (Below.frozen hk9 (p := ⟨W.heap.size, 0, none⟩) hlt3).trans fz0
            have hfar : some W.heap.size ≠ (Value.slice a6 m6 c6).ownBlock := fun e => by have := HSJ.out.far _ e.symm; have := HSW.out; omega
            have HFAR := Lib.hid hfar
            have HLT9 : Hid (W.heap.size < w9.heap.size) := Lib.hid (by have := hk9.size; omega)
            clear hw9 hk9 hnot hrj hfar
            go_upto_region 22 with fail
            go_upto_region 23 with (rw [← HW9.out]; at_builtin; (refine wpList_append_lies _ rfl _ _ 22 rfl 0 63 i0 _ 3 24 Try.underlying22 I0.out I1.out I2.out I3.out rfl (by omega) (.slice a6 m6 c6) m6 _ rfl HO9.out ⟨wj.heap.size, 0, none⟩ 1 1 [.int .i64 (v : Nat), .int .i64 (ra : Nat), .int .i64 (rb : Nat)] rfl rfl HN9.out (by simp [Value.oneCell']) (by omega) (by unfold maxLen; omega) (by omega) (Nat.zero_le _) (wj.heap.size + 1) HZ9.out ?_); intro gg cap w10 hown10 hgrow hat hlt10; have st10 := hgrow.cell (a := ⟨W.heap.size, 0, none⟩) (v := .slice a6 m6 c6) c9 HFAR.out; have sf10 := (World.frozen?_of_block (a := ⟨W.heap.size, 0, none⟩) (hgrow.block W.heap.size HLT9.out HFAR.out)).trans z9)
            have hr10 := (HRJ.out.kept HK9.out).same (hgrow.block W.heap.size HLT9.out HFAR.out)
            have hsf : SFrm (.slice a6 m6 c6) (.slice (some ⟨gg, 0, none⟩) (m6 + 1) cap) w9 w10 := ⟨hgrow.os, hgrow.tape, hgrow.output, hgrow.size, fun t ht hn => hgrow.block t ht (fun e => hn e.symm), fun t ht => by
              obtain rfl : gg = t := by simpa [Value.ownBlock] using ht
              exact hat.imp id (fun e => by have := HZ9.out; omega)⟩
            have ho10 : OwnDns w10 (.slice (some ⟨gg, 0, none⟩) (m6 + 1) cap) (Z2.1 ++ [⟨v, ra, rb⟩]) := by
              unfold OwnDns
              rw [List.length_append, List.length_singleton, ← HM6.out, List.flatMap_append]
              simpa [znC] using hown10
            have hs9 := HSJ.out.kept HK9.out
            have hr610 : ResCell w10 (W.heap.size + 1) := by
              have h9 := HR6J.out.kept HK9.out
              have hb := hs9.raw hsf (b := W.heap.size + 1) (Nat.le_succ _) HSW.out
              exact ⟨h9.row.same hb, hb.trans h9.raw⟩
            have hs10 := hs9.call ho10 hsf
            obtain ⟨w11, hw11⟩ : ∃ w11, w11 = w10.setCell ⟨W.heap.size, 0, none⟩ (.slice (some ⟨gg, 0, none⟩) (m6 + 1) cap) := ⟨_, rfl⟩
            have hr11 : RowAt w11 W.heap.size 24 [.slice (some ⟨gg, 0, none⟩) (m6 + 1) cap, .int .i64 root] := by
              rw [hw11]
              have := hr10.store 0 (.slice (some ⟨gg, 0, none⟩) (m6 + 1) cap)
              simpa using this
            have hr611 : ResCell w11 (W.heap.size + 1) := by
              rw [hw11]
              exact ⟨hr610.row.other (by omega) 0 _, (Below.heap_setCell _ _ _ _ (by show W.heap.size + 1 ≠ W.heap.size; omega)).trans hr610.raw⟩
            have hs11 : AddSt W wi w11 (.slice sa m sc) (.slice (some ⟨gg, 0, none⟩) (m6 + 1) cap) (Z2.1 ++ [⟨v, ra, rb⟩]) := by
              rw [hw11]
              exact hs10.store (Nat.le_refl _) (by have := HSW.out; omega) 0 _
            rw [← hw11]
            have HRU := Lib.hid hr611
            have HR611 := Lib.hid (hr611.kept (Kept.refl w11).drew)
            have HS11 := Lib.hid (hs11.kept (Kept.refl w11).drew)
            have hrd := hr11.kept (Kept.refl w11).drew
            have e0 := hrd.cell (i := 0) (by simp)
            have e1 := hrd.cell (i := 1) (by simp)
            simp only [List.getElem_cons_succ, List.getElem_cons_zero] at e0 e1
            have e2 := hr11.cell (i := 0) (by simp)
            have e3 := hr11.cell (i := 1) (by simp)
            simp only [List.getElem_cons_succ, List.getElem_cons_zero] at e2 e3
            obtain ⟨c2, c3, f2, f3⟩ := hr611.cells
            obtain ⟨c0, c1, f0, f1⟩ := HR611.out.cells
            clear hown10 hgrow hat hlt10 st10 sf10 hr10 hsf ho10 hs9 hr610 hs10 hw11 hr11 hr611 hs11 hrd c9 z9 d0 d1 n0 n1 n2 fz0
            generalize hm7 : m6 + 1 = m7 at *
            have hm7b : m7 ≤ 1000001 := by omega
            obtain ⟨m8, hm8⟩ : ∃ x, x = 1 + m7 := ⟨_, rfl⟩
            have e7 : (1 : Int) + (m7 : Int) = (m8 : Int) := by omega
            have hm8b : m8 ≤ 1000002 := by omega
            have HE8 : Hid ((m8 : Int) = (Z.2 : Nat)) := Lib.hid (by rw [← HE.out.2]; omega)
            clear hm7 hm8 em1
            go_region
            all_goals
              go_wp2_with fail
              obtain ⟨y0, y1⟩ := HRU.out.after (.slice (some ⟨gg, 0, none⟩) m7 cap) (.int .i64 root)
              refine bodyPost_ret (v := .tuple #[.agg #[.slice (some ⟨gg, 0, none⟩) m7 cap, .int .i64 root], .int .i64 (m8 : Nat)]) (by simp [results, Try.results81, go_sem, y0, y1]) rfl ?_
              exact HEND.out wi w11.drew _ _ _ (Z2.1 ++ [⟨v, ra, rb⟩]) m8 HS11.out HSW.out HE.out.1 HE8.out
theorem radd_any : ∀ k, k ≤ 24 → RAdd k := by
  intro k
  induction k with
  | zero => exact fun h => radd_step 0 h fun k2 h2 => by omega
  | succ k ih => exact fun h => radd_step (k + 1) h fun k2 h2 => by obtain rfl : k2 = k := by omega
                                                                    exact ih (by omega)
end Go.Proofs.Ytiplibgnfcdlkaa
