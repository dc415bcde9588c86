/-
  Walks: formula.Trim of a formula that is refused; coherent.Syntax.
-/
import Derived.Test.YtcgfjacidjebaaaD3
namespace Go.Proofs.Ytcgfjacidjebaaa
open Go.RowKit

set_option maxRecDepth 100000 in
set_option maxHeartbeats 2000000 in
theorem trim_err (v : Value) (f : Fm) (w : World) (hv : NodesAt w v f.nodes) (ht : f.top ≤ 9223372036854775807) (hck : chkF f ≠ 0) :
    Calls Try.prog 35 #[fmV v f] w fun e w' => e = .returned (.tuple #[.agg #[.int .i64 0, .slice none 0 0, .int .i64 0], errV (chkF f)]) ∧ Kept w w' := by
  have H := Lib.hid (fun W (hk : Kept w W) => check_any v f W (hv.kept hk) ht)
  have E2 := Lib.hid (errV_pos hck)
  have HE := Lib.hid hck
  obtain ⟨a, c, rfl, _⟩ := hv
  obtain ⟨n, hn⟩ : ∃ n, n = f.nodes.length := ⟨_, rfl⟩
  rw [← hn] at H ⊢
  obtain ⟨vars, nodes, top⟩ := f
  clear hn hck
  go_enter Try.func35, Try.ntmps35
  go_wp2_with (go_at_call 26; refine (H.out _ (((Kept.refl _).alloc _).alloc _)).mono ?_; rintro e w1 ⟨rfl, hk1⟩; rw [E2.out]; have hs1 := hk1.size; simp only [World.size_alloc] at hs1; have hres := ((RowAt.made (w.alloc (.cells #[.int .i64 vars, .slice a n c, .int .i64 top] 24)) #[.int .i64 0, .slice none 0 0, .int .i64 0] 24).kept hk1); simp only [World.size_alloc] at hres; have r0 := hres.cell (i := 0) (by simp); have r1 := hres.cell (i := 1) (by simp); have r2 := hres.cell (i := 2) (by simp); have s0 := hres.free 0; have s1 := hres.free 1; have s2 := hres.free 2; simp only [List.getElem_cons_succ, List.getElem_cons_zero] at r0 r1 r2; clear hres)
  refine bodyPost_ret (v := .tuple #[.agg #[.int .i64 0, .slice none 0 0, .int .i64 0], errV (chkF ⟨vars, nodes, top⟩)]) ?_ rfl ⟨rfl, ?_⟩
  · simp [results, Try.results35, go_sem, r0, r1, r2, E2.out]
  · have hkA : Kept w w1 := (((Kept.refl w).alloc _).alloc _).trans hk1
    exact ((hkA.store (by omega) _ _).store (by omega) _ _).store (by omega) _ _

/-- No negation and no exclusive or. -/
def monoK (ks : List Int) : Bool := ks.all fun k => !(k == 1 || k == 5)
def synK (V T : Nat) (f : Fm) : Bool := monoK (kindsUp V (belowK V T f.nodes) f.nodes f.nodes.length)

set_option maxHeartbeats 2000000 in
theorem syntax_err (v : Value) (f : Fm) (w : World) (hv : NodesAt w v f.nodes) (ht : f.top ≤ 9223372036854775807) (hck : chkF f ≠ 0) :
    Calls Try.prog 52 #[fmV v f] w fun e w' => e = .returned (.tuple #[.bool false, errV (chkF f)]) ∧ Kept w w' := by
  have H := Lib.hid (fun W (hk : Kept w W) => trim_err v f W (hv.kept hk) ht hck)
  have E2 := Lib.hid (errV_pos hck)
  obtain ⟨q, hq⟩ : ∃ q, q = chkF f := ⟨_, rfl⟩
  rw [← hq] at H E2 ⊢
  clear hv ht hck hq
  go_enter Try.func52, Try.ntmps52
  go_wp2_with (go_at_call 35; refine (H.out _ ((Kept.refl _).alloc _)).mono ?_; rintro e w1 ⟨rfl, hk1⟩; rw [E2.out]; have hs1 := hk1.size; simp only [World.size_alloc] at hs1)
  go_ret2
  exact ⟨by rw [E2.out]; rfl, ((((Kept.refl _).alloc _).trans hk1).alloc _)⟩

set_option maxHeartbeats 4000000 in
theorem syntax_ok (v : Value) (f : Fm) (V T : Nat) (w : World) (hv : NodesAt w v f.nodes) (hok : Ok f V T) (hck : chkF f = 0) :
    Calls Try.prog 52 #[.agg #[.int .i64 V, v, .int .i64 T]] w fun e w' => e = .returned (.tuple #[.bool (synK V T f), .nilIface]) ∧ Kept w w' := by
  have H := Lib.hid (fun W (hk : Kept w W) => trim_any v f V T W (hv.kept hk) hok hck)
  have hlen := len_kindsUp V (belowK V T f.nodes) f.nodes f.nodes.length
  have h128 := hok.n128
  unfold synK
  obtain ⟨ks, hks⟩ : ∃ ks, ks = kindsUp V (belowK V T f.nodes) f.nodes f.nodes.length := ⟨_, rfl⟩
  rw [← hks] at H hlen ⊢
  obtain ⟨r, hr⟩ : ∃ r, r = monoK ks := ⟨_, rfl⟩
  rw [← hr]
  have HR := Lib.hid hr
  obtain ⟨n, hn⟩ : ∃ n, n = ks.length := ⟨_, rfl⟩
  have hn9 : n ≤ 128 := by omega
  have HN := Lib.hid hn
  clear hv hok hck hks hr hlen h128 hn
  go_enter Try.func52, Try.ntmps52
  go_wp2_with (go_at_call 35; refine (H.out _ ((Kept.refl _).alloc _)).mono ?_; rintro e w1 ⟨tv, top, rfl, hkd, hk1⟩; obtain ⟨ta, tc, rfl, _, _, htc⟩ := hkd; rw [← HN.out]; have HTC := Lib.hid htc; clear htc; have hs1 := hk1.size; simp only [World.size_alloc] at hs1)
  have hk2 : Kept w (w1.alloc (.cells #[.int .i64 V, .slice ta n tc, .int .i64 top] 24)) := (((Kept.refl _).alloc _).trans hk1).alloc _
  go_loopw [7, 19] (fun _ i wr => ∃ k : Nat, k ≤ n ∧ i = .int .i64 k ∧ Hid (monoK (ks.take k) = true) ∧ Kept w1 wr ∧ Kept w wr) (fun _ i _ => n - (intOf i).toNat)
  case atStart => exact ⟨0, Nat.zero_le _, rfl, Lib.hid rfl, (Kept.refl _).alloc _, hk2⟩
  case round =>
    clear hk2
    obtain ⟨k, hk, rfl, HM, hK, hKw⟩ := hrel
    by_cases hlt : k < n
    · have hkx : k < ks.length := by have := HN.out; omega
      obtain ⟨b, o, rfl, u1, sa, sn, sc, c0, c1, c2⟩ := HTC.out k hkx
      have hstep : monoK (ks.take (k + 1)) = (monoK (ks.take k) && !(ks[k] == 1 || ks[k] == 5)) := by
        unfold monoK; rw [List.take_succ_eq_append_getElem hkx, List.all_append]; simp
      have hbad : (ks[k] == 1 || ks[k] == 5) = true → r = false := by
        intro h; rw [HR.out, monoK, List.all_eq_false]; exact ⟨ks[k], List.getElem_mem _, by rw [h]; simp⟩
      obtain ⟨kd, hkd⟩ : ∃ kd, kd = ks[k] := ⟨_, rfl⟩
      rw [← hkd] at c0 hstep hbad
      have hrange : wr.rangeAt b (o + k * 3) [.int .i64 kd, .int .i64 u1, .slice sa sn sc] := by
        intro j v hj
        match j, hj with
        | 0, hj => simp at hj; subst hj; exact hK.cell c0
        | 1, hj => simp at hj; subst hj; exact hK.cell c1
        | 2, hj => simp at hj; subst hj; exact hK.cell c2
      have HRG := Lib.hid hrange
      have HS := Lib.hid hstep
      have HB := Lib.hid hbad
      clear c0 c1 c2 hrange hstep hbad hkd
      by_cases h1 : kd = 1
      · subst h1
        go_wp2_with (with_reducible refine wpList_load_mid rfl 47 _ rfl b (o + k * 3) rfl _ _ HRG.out Try.underlying47 rfl (by kernel_rfl) ?_)
        go_ret2
        exact ⟨by rw [HB.out rfl]; rfl, (hKw.alloc _)⟩
      · by_cases h5 : kd = 5
        · subst h5
          go_wp2_with (with_reducible refine wpList_load_mid rfl 47 _ rfl b (o + k * 3) rfl _ _ HRG.out Try.underlying47 rfl (by kernel_rfl) ?_)
          go_ret2
          exact ⟨by rw [HB.out rfl]; rfl, (hKw.alloc _)⟩
        · have b1 : (kd == 1) = false := by simpa using h1
          have b5 : (kd == 5) = false := by simpa using h5
          go_wp2_with (with_reducible refine wpList_load_mid rfl 47 _ rfl b (o + k * 3) rfl _ _ HRG.out Try.underlying47 rfl (by kernel_rfl) ?_)
          go_roundw
          case rel => exact ⟨k + 1, by omega, by go_num, Lib.hid (by rw [HS.out, HM.out, b1, b5]; rfl), hK.alloc _, hKw.alloc _⟩
          case measure => simp [intOf]; omega
    · have e : r = true := by
        have := HM.out
        rw [List.take_of_length_le (by have := HN.out; omega)] at this
        rw [HR.out]; exact this
      have HE := Lib.hid e
      clear e
      go_wp2
      go_ret2
      exact ⟨by rw [HE.out]; rfl, hKw⟩
end Go.Proofs.Ytcgfjacidjebaaa
