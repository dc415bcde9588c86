import Derived.Test.YtpaedhlacbpmpaaGreatDoorPX1
import Derived.Test.YtpaedhlacbpmpaaGreatDoorPX2
import Derived.Test.YtpaedhlacbpmpaaGreatDoorPX3
import Derived.Test.YtpaedhlacbpmpaaGreatDoorPX4
import Derived.Test.YtpaedhlacbpmpaaGreatDoorPX5
import Derived.Test.YtpaedhlacbpmpaaGreatDoorPX6
import Derived.Test.YtpaedhlacbpmpaaGreatDoorPX7
import Derived.Test.YtpaedhlacbpmpaaGreatDoorPX8
import Derived.Test.YtpaedhlacbpmpaaGreatDoorPZ1
import Derived.Test.YtpaedhlacbpmpaaGreatDoorPZ2
/-
  Walks: faultlineref20.Add, Sub, Mul, Const, Event. Printed by gen_PG5.py.
-/
namespace Go.Proofs.YtpaedhlacbpmpaaGreatDoor
open Go.RowKit

theorem norm_snoc (L : Pol) (t : Nat × Rat) : normP (L ++ [t]) = plusP (normP L) t := by unfold normP; rw [List.foldl_append]; rfl
theorem norm_selfP {p : Pol} (h : CanP p) : normP p = p := pol_unique (normP_can p) h (normP_coef p)
theorem neg_snoc (p : Pol) (t : Nat × Rat) : negP (p ++ [t]) = negP p ++ [(t.1, - t.2)] := by simp [negP]
/-- What plus asks of a list that a loop has made. -/
structure NOk (P : Pol) : Prop where
  bit : ∀ t ∈ P, t.1 < 16777216
  len : P.length ≤ 16777216
  sh : ShP 17179869000 P
theorem norm_ok {L : Pol} {c : Nat} (hb : ∀ t ∈ L, t.1 < 16777216) (hl : L.length ≤ 4096) (hs : ShP c L) (hc : 1 ≤ c) (hc2 : c ≤ 100000) : NOk (normP L) := by
  refine ⟨fun t ht => ?_, Nat.le_trans (len_normP L) (by omega), norm_sh fun s => ?_⟩
  · obtain ⟨u, hu, e⟩ := mem_normP ht
    rw [e]; exact hb u hu
  · have h2 := coef_short (s := s) hc hs
    have h3 : (c + 1) * L.length ≤ (c + 1) * 4096 := Nat.mul_le_mul_left _ hl
    have h4 : (c + 1) * 4096 ≤ 100001 * 4096 := Nat.mul_le_mul_right _ (by omega)
    exact ⟨Nat.le_trans h2.1 (by omega), Nat.le_trans h2.2 (by omega)⟩
theorem rplus_ok (v : Value) (P : Pol) (s : Nat) (ng : Bool) (u1 u2 : Value) (r : Rw) (w : World) (hp : TrmsAt w v (polT P)) (hr : RatAt w (.agg #[.bool ng, u1, u2]) r) (hs : s < 16777216) (hn : NOk P) (hrs : r.Short 17179869000) :
    Calls Tryz.prog 58 #[v, .agg #[.int .i64 s, .bool ng, u1, u2]] w fun e w' => (∃ v', e = .returned v' ∧ TrmsAt w' v' (polT (plusP P (s, ratOf r)))) ∧ Kept w w' :=
  rplus_any v P s ng u1 u2 r w hp hr hs hn.bit hn.len hn.sh hrs
set_option maxRecDepth 100000 in
theorem rlarge_ok (a : Option Addr) (n c : Nat) (w : World) (hl : n ≤ 4096) : Calls Tryz.prog 59 #[.slice a n c] w fun e w' => e = .returned (.tuple #[.slice a n c, .int .i64 0]) ∧ w' = w := by
  have h : ¬ (4096 : Int) < (n : Int) := by omega
  go_enter Tryz.func59, Tryz.ntmps59
  go_wp2
  go_ret2
  exact ⟨rfl, rfl⟩
theorem TrmsAt.len2 {w : World} {a : Option Addr} {n c : Nat} {ts : List Trm} (h : TrmsAt w (.slice a n c) ts) : n = ts.length := by
  obtain ⟨_, _, e, _⟩ := h
  simp only [Value.slice.injEq] at e
  exact e.2.1
set_option maxRecDepth 100000 in
set_option maxHeartbeats 16000000 in
theorem rsum_any (v u : Value) (p q : Pol) (w : World) (hp : TrmsAt w v (polT p)) (hq : TrmsAt w u (polT q)) (sp : Sm 1000 64 p) (sq : Sm 1000 64 q) :
    Calls Tryz.prog 16 #[v, u] w fun e w' => (∃ v', e = .returned (.tuple #[v', .int .i64 0]) ∧ TrmsAt w' v' (polT (normP (p ++ q)))) ∧ Kept w w' := by
  obtain ⟨a, ac, rfl⟩ := hp.shape
  obtain ⟨b9, bc, rfl⟩ := hq.shape
  obtain ⟨n, hn⟩ : ∃ n, n = p.length := ⟨_, rfl⟩
  obtain ⟨m, hm⟩ : ∃ m, m = q.length := ⟨_, rfl⟩
  rw [polT_len, ← hn] at hp
  rw [polT_len, ← hm] at hq
  rw [polT_len, polT_len, ← hn, ← hm]
  have hnl : n ≤ 64 := by rw [hn]; exact sp.len
  have hml : m ≤ 64 := by rw [hm]; exact sq.len
  have HP := Lib.hid hp
  have HQ := Lib.hid hq
  have HN := Lib.hid hn
  have HM := Lib.hid hm
  have HSP := Lib.hid sp.sh
  have HSQ := Lib.hid sq.sh
  have HBP := Lib.hid sp.acc.bit
  have HBQ := Lib.hid sq.acc.bit
  have HSTEP : Hid (∀ j (h : j < q.length), normP (p ++ q.take (j + 1)) = plusP (normP (p ++ q.take j)) (q[j].1, q[j].2)) := Lib.hid fun j h => by
    rw [← norm_snoc, List.take_succ_eq_append_getElem h, ← List.append_assoc]
  have HNO : Hid (∀ j, NOk (normP (p ++ q.take j))) := Lib.hid fun j => norm_ok (c := 1000) (fun t ht => by
    rcases List.mem_append.1 ht with h | h
    · exact sp.acc.bit t h
    · exact sq.acc.bit t (List.mem_of_mem_take h)) (by rw [List.length_append, List.length_take]; have := sp.len; omega) (fun t ht => by
    rcases List.mem_append.1 ht with h | h
    · exact sp.sh t h
    · exact sq.sh t (List.mem_of_mem_take h)) (by omega) (by omega)
  have HS0 : Hid (normP (p ++ q.take 0) = p) := Lib.hid (by rw [List.take_zero]; simp [norm_selfP sp.acc.can])
  have HLE : Hid ((normP (p ++ q)).length ≤ 4096) := Lib.hid (by
    have h1 := len_normP (p ++ q)
    rw [List.length_append] at h1
    have := sp.len
    have := sq.len
    omega)
  have HLK : Hid (([] : List Trm).length + (polT p).length < 1099511627776) := Lib.hid (by rw [polT_len]; have := sp.len; simp; omega)
  clear hp hq sp sq hn hm
  go_enter Tryz.func16, Tryz.ntmps16
  go_wp2_with (at_builtin; refine app_trms rfl _ _ rfl w.heap.size _ [] rfl (own_emptyT w _ (Nat.le_refl _)) _ (polT p) rfl (HP.out.kept ((Kept.refl _).alloc _)) HLK.out (by simp) ?_; intro v4 w4 hown4 hb4; have HO4 := Lib.hid hown4; have HB4 := Lib.hid hb4; clear hown4 hb4)
  have HK4 : Hid (Kept w w4) := Lib.hid (((Kept.refl _).alloc _).app HB4.out)
  have HT4 : Hid (TrmsAt w4 v4 (polT (normP (p ++ q.take 0)))) := Lib.hid (by rw [HS0.out]; exact HO4.out.at)
  go_loopg [6, 14] m (fun kx s6 sj wr => ∃ j : Nat, j ≤ m ∧ sj = .int .i64 j ∧ m - j ≤ kx ∧ Hid (TrmsAt wr s6 (polT (normP (p ++ q.take j)))) ∧ Hid (Kept w wr))
  case atStart => exact ⟨0, Nat.zero_le _, rfl, by omega, HT4, HK4⟩
  case round =>
    obtain ⟨j, hj, rfl, hjx, HS, HKr⟩ := hrel
    obtain ⟨wi, rfl⟩ : ∃ wi : World, wi = wr := ⟨_, rfl⟩
    by_cases hlt : j < m
    · have hjn : (j : Int) < (m : Int) := by omega
      have hjl : j < q.length := by rw [← HM.out]; exact hlt
      obtain ⟨b, o, y1, y2, y3, a1, c1, a2, c2, rfl, z0, z1, z2, z3, HRT⟩ := (HQ.out.kept HKr.out).term j hjl
      obtain ⟨s, hs⟩ : ∃ s, s = q[j].1 := ⟨_, rfl⟩
      obtain ⟨c, hc⟩ : ∃ c, c = q[j].2 := ⟨_, rfl⟩
      have hcs : (canR c).Short 1000 := by rw [hc]; exact HSQ.out _ (List.getElem_mem _)
      have hs24 : s < 16777216 := by rw [hs]; exact HBQ.out _ (List.getElem_mem _)
      rw [← hs] at z0
      rw [← hc] at HRT
      obtain ⟨w3, hw3⟩ : ∃ w3, w3 = wi.alloc (.cells #[.int .i64 s, .bool y1, .slice a1 y2 c1, .slice a2 y3 c2] 83) := ⟨_, rfl⟩
      have HX3 : Hid (RowAt w3 wi.heap.size 83 [.int .i64 s, .bool y1, .slice a1 y2 c1, .slice a2 y3 c2]) := Lib.hid (by rw [hw3]; exact RowAt.made wi #[.int .i64 s, .bool y1, .slice a1 y2 c1, .slice a2 y3 c2] 83)
      have HK3 : Hid (Kept wi w3) := Lib.hid (by rw [hw3]; exact (Kept.refl wi).alloc _)
      have HW3 := Lib.hid hw3
      have HR3 := Lib.hid (HRT.out.kept HK3.out)
      clear hw3
      have HST := Lib.hid (HSTEP.out j hjl)
      rw [← hs, ← hc] at HST
      have HNJ := Lib.hid (HNO.out j)
      have HPL : Hid (∀ W o, TrmsAt W o (polT (normP (p ++ q.take j))) → RatAt W (.agg #[.bool y1, .slice a1 y2 c1, .slice a2 y3 c2]) (canR c) → Calls Tryz.prog 58 #[o, .agg #[.int .i64 s, .bool y1, .slice a1 y2 c1, .slice a2 y3 c2]] W fun e w' => (∃ v', e = .returned v' ∧ TrmsAt w' v' (polT (normP (p ++ q.take (j + 1))))) ∧ Kept W w') := Lib.hid fun W o h1 h2 => by
        rw [HST.out]
        have h := rplus_ok o _ s y1 _ _ (canR c) W h1 h2 hs24 HNJ.out ⟨Nat.le_trans hcs.1 (by omega), Nat.le_trans hcs.2 (by omega)⟩
        rw [ratOf_can] at h
        exact h
      clear hs hc hcs
      go_wp2_with fail
      rw [← HW3.out]
      obtain ⟨x0, x1, x2, x3⟩ := trm4_at HX3.out
      clear z0 z1 z2 z3
      go_wp2_with fail
      refine (HPL.out _ _ (HS.out.kept HK3.out) HR3.out).mono ?_
      rintro e w5 ⟨⟨v5, rfl, hv5⟩, hk5⟩
      have HV5 := Lib.hid hv5
      have HK5 := Lib.hid (HKr.out.trans (HK3.out.trans hk5))
      clear hv5 hk5 x0 x1 x2 x3
      go_wp2_with fail
      go_roundg (m - (j + 1))
      case measure => omega
      case rel => exact ⟨j + 1, by omega, by go_num, Nat.le_refl _, HV5, HK5⟩
    · have hjn : ¬ (j : Int) < (m : Int) := by omega
      have hje : j = q.length := by have := HM.out; omega
      have HSE : Hid (TrmsAt wi u6 (polT (normP (p ++ q)))) := Lib.hid (by have h := HS.out; rw [hje, List.take_length] at h; exact h)
      clear hje
      obtain ⟨fa, fl, fc, rfl⟩ := HSE.out.slc
      have hfl : fl ≤ 4096 := by
        have h := HSE.out.len2
        rw [polT_len] at h
        rw [h]
        exact HLE.out
      have HLG := Lib.hid (rlarge_ok fa fl fc wi hfl)
      clear hfl
      go_wp2_with fail
      refine HLG.out.mono ?_
      rintro e w9 ⟨rfl, he9⟩
      rw [he9]
      go_wp2
      go_ret2
      exact ⟨⟨_, rfl, HSE.out⟩, HKr.out⟩
set_option maxRecDepth 100000 in
set_option maxHeartbeats 16000000 in
theorem rdiff_any (v u : Value) (p q : Pol) (w : World) (hp : TrmsAt w v (polT p)) (hq : TrmsAt w u (polT q)) (sp : Sm 1000 64 p) (sq : Sm 1000 64 q) :
    Calls Tryz.prog 17 #[v, u] w fun e w' => (∃ v', e = .returned (.tuple #[v', .int .i64 0]) ∧ TrmsAt w' v' (polT (normP (p ++ negP q)))) ∧ Kept w w' := by
  obtain ⟨a, ac, rfl⟩ := hp.shape
  obtain ⟨b9, bc, rfl⟩ := hq.shape
  obtain ⟨n, hn⟩ : ∃ n, n = p.length := ⟨_, rfl⟩
  obtain ⟨m, hm⟩ : ∃ m, m = q.length := ⟨_, rfl⟩
  rw [polT_len, ← hn] at hp
  rw [polT_len, ← hm] at hq
  rw [polT_len, polT_len, ← hn, ← hm]
  have hnl : n ≤ 64 := by rw [hn]; exact sp.len
  have hml : m ≤ 64 := by rw [hm]; exact sq.len
  have HP := Lib.hid hp
  have HQ := Lib.hid hq
  have HN := Lib.hid hn
  have HM := Lib.hid hm
  have HSP := Lib.hid sp.sh
  have HSQ := Lib.hid sq.sh
  have HBP := Lib.hid sp.acc.bit
  have HBQ := Lib.hid sq.acc.bit
  have HSTEP : Hid (∀ j (h : j < q.length), normP (p ++ negP (q.take (j + 1))) = plusP (normP (p ++ negP (q.take j))) (q[j].1, - q[j].2)) := Lib.hid fun j h => by
    rw [← norm_snoc, List.take_succ_eq_append_getElem h, neg_snoc, ← List.append_assoc]
  have HNO : Hid (∀ j, NOk (normP (p ++ negP (q.take j)))) := Lib.hid fun j => norm_ok (c := 1000) (fun t ht => by
    rcases List.mem_append.1 ht with h | h
    · exact sp.acc.bit t h
    · obtain ⟨x, hx, rfl⟩ := mem_negT h
      exact sq.acc.bit x (List.mem_of_mem_take hx)) (by rw [List.length_append, negP, List.length_map, List.length_take]; have := sp.len; omega) (fun t ht => by
    rcases List.mem_append.1 ht with h | h
    · exact sp.sh t h
    · obtain ⟨x, hx, rfl⟩ := mem_negT h
      have h1 := short_neg (canR_ok x.2) (sq.sh x (List.mem_of_mem_take hx)) (by omega)
      rw [ratOf_can] at h1
      exact h1) (by omega) (by omega)
  have HS0 : Hid (normP (p ++ negP (q.take 0)) = p) := Lib.hid (by rw [List.take_zero]; simp [negP, norm_selfP sp.acc.can])
  have HLE : Hid ((normP (p ++ negP q)).length ≤ 4096) := Lib.hid (by
    have h1 := len_normP (p ++ negP q)
    rw [List.length_append] at h1
    have := sp.len
    have := sq.len
    have h9 : (negP q).length = q.length := List.length_map ..
    omega)
  have HLK : Hid (([] : List Trm).length + (polT p).length < 1099511627776) := Lib.hid (by rw [polT_len]; have := sp.len; simp; omega)
  clear hp hq sp sq hn hm
  go_enter Tryz.func17, Tryz.ntmps17
  go_wp2_with (at_builtin; refine app_trms rfl _ _ rfl w.heap.size _ [] rfl (own_emptyT w _ (Nat.le_refl _)) _ (polT p) rfl (HP.out.kept ((Kept.refl _).alloc _)) HLK.out (by simp) ?_; intro v4 w4 hown4 hb4; have HO4 := Lib.hid hown4; have HB4 := Lib.hid hb4; clear hown4 hb4)
  have HK4 : Hid (Kept w w4) := Lib.hid (((Kept.refl _).alloc _).app HB4.out)
  have HT4 : Hid (TrmsAt w4 v4 (polT (normP (p ++ negP (q.take 0))))) := Lib.hid (by rw [HS0.out]; exact HO4.out.at)
  go_loopg [6, 14] m (fun kx s6 sj wr => ∃ j : Nat, j ≤ m ∧ sj = .int .i64 j ∧ m - j ≤ kx ∧ Hid (TrmsAt wr s6 (polT (normP (p ++ negP (q.take j))))) ∧ Hid (Kept w wr))
  case atStart => exact ⟨0, Nat.zero_le _, rfl, by omega, HT4, HK4⟩
  case round =>
    obtain ⟨j, hj, rfl, hjx, HS, HKr⟩ := hrel
    obtain ⟨wi, rfl⟩ : ∃ wi : World, wi = wr := ⟨_, rfl⟩
    by_cases hlt : j < m
    · have hjn : (j : Int) < (m : Int) := by omega
      have hjl : j < q.length := by rw [← HM.out]; exact hlt
      obtain ⟨b, o, y1, y2, y3, a1, c1, a2, c2, rfl, z0, z1, z2, z3, HRT⟩ := (HQ.out.kept HKr.out).term j hjl
      obtain ⟨s, hs⟩ : ∃ s, s = q[j].1 := ⟨_, rfl⟩
      obtain ⟨c, hc⟩ : ∃ c, c = q[j].2 := ⟨_, rfl⟩
      have hcs : (canR c).Short 1000 := by rw [hc]; exact HSQ.out _ (List.getElem_mem _)
      have hs24 : s < 16777216 := by rw [hs]; exact HBQ.out _ (List.getElem_mem _)
      rw [← hs] at z0
      rw [← hc] at HRT
      obtain ⟨w3, hw3⟩ : ∃ w3, w3 = wi.alloc (.cells #[.int .i64 s, .bool y1, .slice a1 y2 c1, .slice a2 y3 c2] 83) := ⟨_, rfl⟩
      have HX3 : Hid (RowAt w3 wi.heap.size 83 [.int .i64 s, .bool y1, .slice a1 y2 c1, .slice a2 y3 c2]) := Lib.hid (by rw [hw3]; exact RowAt.made wi #[.int .i64 s, .bool y1, .slice a1 y2 c1, .slice a2 y3 c2] 83)
      have HK3 : Hid (Kept wi w3) := Lib.hid (by rw [hw3]; exact (Kept.refl wi).alloc _)
      have HW3 := Lib.hid hw3
      have HR3 := Lib.hid (HRT.out.kept HK3.out)
      clear hw3
      have HST := Lib.hid (HSTEP.out j hjl)
      rw [← hs, ← hc] at HST
      have HNJ := Lib.hid (HNO.out j)
      have HPL : Hid (∀ W o n l1 l2 e1 f1 e2 f2, TrmsAt W o (polT (normP (p ++ negP (q.take j)))) → RatAt W (.agg #[.bool n, .slice e1 l1 f1, .slice e2 l2 f2]) (canR (- c)) → Calls Tryz.prog 58 #[o, .agg #[.int .i64 s, .bool n, .slice e1 l1 f1, .slice e2 l2 f2]] W fun e w' => (∃ v', e = .returned v' ∧ TrmsAt w' v' (polT (normP (p ++ negP (q.take (j + 1)))))) ∧ Kept W w') := Lib.hid fun W o n l1 l2 e1 f1 e2 f2 h1 h2 => by
        rw [HST.out]
        have hsn := short_neg (canR_ok c) hcs (by omega)
        rw [ratOf_can] at hsn
        have h := rplus_ok o _ s n _ _ (canR (- c)) W h1 h2 hs24 HNJ.out ⟨Nat.le_trans hsn.1 (by omega), Nat.le_trans hsn.2 (by omega)⟩
        rw [ratOf_can] at h
        exact h
      have HNG : Hid (∀ W u, RatAt W u (canR c) → Calls Tryz.prog 60 #[u] W fun e w' => (∃ v', e = .returned v' ∧ RatAt w' v' (canR (- c))) ∧ Kept W w') := Lib.hid fun W u hu => by
        have h := refneg_any u _ W hu ⟨Nat.le_trans hcs.1 (by omega), Nat.le_trans hcs.2 (by omega)⟩
        rw [ratOf_can] at h
        exact h
      clear hs hc hcs
      go_wp2_with fail
      rw [← HW3.out]
      obtain ⟨x0, x1, x2, x3⟩ := trm4_at HX3.out
      have HCL0 : Hid ((fun W : World => W.cell? ⟨wi.heap.size, 0, none⟩ = some (.int .i64 s) ∧ W.cell? ⟨wi.heap.size, 1, none⟩ = some (.bool y1) ∧ W.cell? ⟨wi.heap.size, 2, none⟩ = some (.slice a1 y2 c1) ∧ W.cell? ⟨wi.heap.size, 3, none⟩ = some (.slice a2 y3 c2)) w3) := Lib.hid ⟨x0, x1, x2, x3⟩
      have HSK : Hid (∀ W W' : World, Kept W W' → (fun W : World => W.cell? ⟨wi.heap.size, 0, none⟩ = some (.int .i64 s) ∧ W.cell? ⟨wi.heap.size, 1, none⟩ = some (.bool y1) ∧ W.cell? ⟨wi.heap.size, 2, none⟩ = some (.slice a1 y2 c1) ∧ W.cell? ⟨wi.heap.size, 3, none⟩ = some (.slice a2 y3 c2)) W → (fun W : World => W.cell? ⟨wi.heap.size, 0, none⟩ = some (.int .i64 s) ∧ W.cell? ⟨wi.heap.size, 1, none⟩ = some (.bool y1) ∧ W.cell? ⟨wi.heap.size, 2, none⟩ = some (.slice a1 y2 c1) ∧ W.cell? ⟨wi.heap.size, 3, none⟩ = some (.slice a2 y3 c2)) W') := Lib.hid fun W W' hk ⟨p0, p1, p2, p3⟩ => ⟨hk.cell p0, hk.cell p1, hk.cell p2, hk.cell p3⟩
      have HCLd := Lib.hid (HSK.out w3 w3.drew (Kept.refl _).drew HCL0.out)
      have HS3 := Lib.hid (HS.out.kept HK3.out)
      clear z0 z1 z2 z3
      go_wp2_with fail
      go_region_held3 (fun W => W.cell? ⟨wi.heap.size, 0, none⟩ = some (.int .i64 s) ∧ W.cell? ⟨wi.heap.size, 1, none⟩ = some (.bool y1) ∧ W.cell? ⟨wi.heap.size, 2, none⟩ = some (.slice a1 y2 c1) ∧ W.cell? ⟨wi.heap.size, 3, none⟩ = some (.slice a2 y3 c2))
        (with_reducible first | exact HCL5.out | exact HCL4.out | exact HCLd.out | exact HCL0.out)
        (first
        | (go_at_call 60; (with_reducible refine (HNG.out _ _ (HR3.out.kept (Kept.refl _).drew)).mono ?_); rintro e w4' ⟨⟨v4', rfl, hv4⟩, hk4⟩; have K4 := Lib.hid ((Kept.refl w3).drew.trans hk4); obtain ⟨n', l1', l2', e1', f1', e2', f2', rfl⟩ := hv4.parts; have HV4 := Lib.hid hv4; have HCL4 := Lib.hid (HSK.out _ _ K4.out HCL0.out); clear hv4 hk4)
        | (go_at_call 58; (with_reducible refine (HPL.out _ _ _ _ _ _ _ _ _ (HS3.out.kept K4.out) HV4.out).mono ?_); rintro e w5 ⟨⟨v5, rfl, hv5⟩, hk5⟩; have HV5 := Lib.hid hv5; have K5 := Lib.hid (K4.out.trans hk5); have HCL5 := Lib.hid (HSK.out _ _ K5.out HCL0.out); clear hv5 hk5)
        | fail)
      have HK5 := Lib.hid (HKr.out.trans (HK3.out.trans K5.out))
      clear x0 x1 x2 x3
      go_wp2_with fail
      go_roundg (m - (j + 1))
      case measure => omega
      case rel => exact ⟨j + 1, by omega, by go_num, Nat.le_refl _, HV5, HK5⟩
    · have hjn : ¬ (j : Int) < (m : Int) := by omega
      have hje : j = q.length := by have := HM.out; omega
      have HSE : Hid (TrmsAt wi u6 (polT (normP (p ++ negP q)))) := Lib.hid (by have h := HS.out; rw [hje, List.take_length] at h; exact h)
      clear hje
      obtain ⟨fa, fl, fc, rfl⟩ := HSE.out.slc
      have hfl : fl ≤ 4096 := by
        have h := HSE.out.len2
        rw [polT_len] at h
        rw [h]
        exact HLE.out
      have HLG := Lib.hid (rlarge_ok fa fl fc wi hfl)
      clear hfl
      go_wp2_with fail
      refine HLG.out.mono ?_
      rintro e w9 ⟨rfl, he9⟩
      rw [he9]
      go_wp2
      go_ret2
      exact ⟨⟨_, rfl, HSE.out⟩, HKr.out⟩
end Go.Proofs.YtpaedhlacbpmpaaGreatDoor
