import Derived.Test.YtapniojbnochiaaX7m
import Derived.Test.YtapniojbnochiaaX6m
import Derived.Test.YtapniojbnochiaaR7m
import Derived.Deep.AppendLies
/-
  Walks: faultlineref31.Run.
-/
namespace Go.Proofs.Ytapniojbnochiaa
open Go.RowKit
variable {Z : Option Nat}

theorem own_grown {w w' : World} {B : Nat} {e : TypeId} {size : Nat} {v : Value} {n : Nat} {xs : List Value} {ob : Option Nat} (h : w.ownsRow B e size v n xs) (hg : w.grownBy w' ob) (hne : ∀ g, v.ownBlock = some g → some g ≠ ob) : w'.ownsRow B e size v n xs := by
  have hlt := fun g hg => (h.lt g hg).2
  obtain ⟨h1, h2⟩ := h
  refine ⟨h1, h2.imp id ?_⟩
  rintro ⟨g, cap, cur, rfl, h5, h6, h7⟩
  exact ⟨g, cap, cur, rfl, h5, (hg.block g (hlt g rfl) (hne g rfl)).trans h6, h7⟩
/-- Rows stay while the steps, in a block that holds none of their nodes, are appended to. -/
theorem OwnRfs.stepped {W w7 : World} {B B' g : Nat} {v s : Value} {L : List Nat} {xs : List Int} (h : OwnRfs s.ownBlock W B v L) (hs : OwnInts W B' s xs) (hg : W.grownBy w7 s.ownBlock) (hat : s.ownBlock = some g ∨ g = W.heap.size) : OwnRfs (some g) w7 B v L := by
  obtain ⟨cells, h1, h2, h3⟩ := h
  refine ⟨cells, own_tag h1 hs.1 (by decide) (fun k hk hne => hg.block k hk hne), h2, fun i hi => ?_⟩
  obtain ⟨u, e0, e1, ⟨e2, e4⟩, e3⟩ := h3 i hi
  refine ⟨u, e0, e1, ⟨own_grown e2 hg fun g2 hg2 he => e3 g2 hg2 he.symm, e4⟩, fun g2 hg2 he => ?_⟩
  have hlt := (e2.lt g2 hg2).2
  injection he with he
  subst he
  rcases hat with hat | hat
  · exact e3 _ hg2 hat
  · omega
theorem app_int_at {ops : Array Oper} {rest : List Oper} {o : Oper} {a : Act} {Q : Exit → Act → World → Prop} {w : World} (hgd : o.guard = none) (s x : Operand)
    (ho : o.op = .call { callee := .builtin .append, args := #[s, x], argTypes := #[27, 27] }) (B : Nat) (v : Value) (xs : List Int) (hs : a.eval s = v) (hown : OwnInts w B v xs)
    (ad : Addr) (y : Int) (hx : a.eval x = .slice (some ad) 1 1) (hc : w.cell? ad = some (.int .i64 y)) (hl : xs.length < 17592186044416) (hB : B ≤ w.heap.size)
    (h : ∀ g cap w', OwnInts w' B (.slice (some ⟨g, 0, none⟩) (xs.length + 1) cap) (xs ++ [y]) → w.grownBy w' v.ownBlock → (v.ownBlock = some g ∨ g = w.heap.size) → Below B w w' → wpList Try.prog ops Q rest (a.put o.dst (.slice (some ⟨g, 0, none⟩) (xs.length + 1) cap)) w') : wpList Try.prog ops Q (o :: rest) a w := by
  obtain ⟨i0, hi0, hz0, hz1, hz2⟩ := info_parts info_int
  refine wpList_append_lies w hgd s x 27 ho B 3 i0 _ 1 8 Try.underlying27 hi0 hz0 hz1 hz2 rfl (by decide) v xs.length _ hs hown.1 ad 1 1 [.int .i64 y] hx rfl ?_ ?_ (by decide) (by simp [maxLen]; omega) (by omega) hB w.heap.size rfl ?_
  · intro j u hj
    match j, hj with
    | 0, hj => simp at hj; subst hj; simpa [Addr.add] using hc
  · intro u hu; simp at hu; subst hu; rfl
  · intro g cap w' h2 h3 h4 _
    exact h g cap w' ⟨by simpa using h2, by simp; omega⟩ h3 h4 (grown_below h3 hown.1 hB)
theorem argsOk_pos {kind : Int} {n : Nat} (h : argsOk kind n = true) (h0 : kind ≠ 0) : 1 ≤ n := by
  unfold argsOk at h
  rw [if_neg h0] at h
  split at h
  · simp at h; omega
  · simp at h; omega
/-- What the reference's Run answers. -/
def RefRun (w' : World) (e : Ending) (r : Option (List Nat × List Nat)) : Prop :=
  match r with
  | some p => ∃ Z v1 v2 L, e = .returned (.tuple #[v1, v2, .int .i64 0]) ∧ OwnRfs Z w' 0 v1 L ∧ L.Perm p.1 ∧ OwnInts w' 0 v2 (ofN p.2)
  | none => e = .returned (.tuple #[.slice none 0 0, .slice none 0 0, .int .i64 4])
theorem refRun_none (w : World) : RefRun w (.returned (.tuple #[.slice none 0 0, .slice none 0 0, .int .i64 4])) none := rfl
theorem evW_zero : evW 0 = 0 := rfl
theorem nodesOf_zero : nodesOf 0 = [] := by
  unfold nodesOf
  rw [List.filter_eq_nil_iff]
  intro a _; simp
set_option maxRecDepth 100000 in
set_option maxHeartbeats 4000000 in
theorem rrun_ok (v : Value) (f : Fm) (V T : Nat) (w : World) (hv : NodesAt w v f.nodes) (hok : Ok f V T) (hs : synK V T f = true) :
    Calls Try.prog 70 #[.agg #[.int .i64 V, v, .int .i64 T]] w fun e w' => RefRun w' e (topK V T f.nodes) ∧ Kept w w' := by
  have HTY : Hid (∀ W, Kept w W → Calls Try.prog 59 #[.agg #[.int .i64 V, v, .int .i64 T]] W fun e w' => e = .returned (.int .i64 0) ∧ Kept W w') := Lib.hid fun W hk => by
    have := typed_any v f V T W (hv.kept hk) hok
    rw [if_pos hs] at this; exact this
  have HNR := Lib.hid (fun i (hi : i < f.nodes.length) => node_read hv i hi)
  have HOK := Lib.hid hok
  have HMO := Lib.hid (fun i (hi : i < f.nodes.length) h => kind_mono hok hs i hi h)
  have hsh : ∃ a n c, v = .slice a n c := by obtain ⟨a, c, h, _⟩ := hv; exact ⟨a, _, c, h⟩
  obtain ⟨a, n, c, rfl⟩ := hsh
  have h24 := hok.v24
  have h128 := hok.n128
  have htl := hok.tlt
  have hc0 : RowLt 152 (cond V (T : Int)) := rowLt_mono (rowLt_cond (V := V) (m := 128) (by omega) h24) (by omega)
  have HST0 := Lib.hid (Stand.start hok)
  have HW0 : Hid (∀ W', Calls Try.prog 102 #[.agg #[.int .i64 V, .slice a n c, .int .i64 T], .agg #[.int .i64 0, .slice none 0 0], .int .i64 T] W' fun e w' => (∃ u', e = .returned (.agg #[.int .i64 (evW (cond V (T : Int))), u']) ∧ NdsAt none w' u' (cond V (T : Int))) ∧ Kept W' w') := Lib.hid fun W' => by
    have := rrwith_any (Z := none) 0 V (.slice a n c) T ⟨_, _, _, rfl⟩ h24 (T : Int) (by omega) (.slice none 0 0) W' (fun z hz => by cases hz) ⟨by rw [nodesOf_zero]; exact OwnInts.nil _ _, fun g hg => by cases hg⟩
    rw [show withC V 0 (T : Int) = cond V (T : Int) by unfold withC; simp, evW_zero] at this
    exact this
  obtain ⟨c0, hc00⟩ : ∃ c0, c0 = cond V (T : Int) := ⟨_, rfl⟩
  obtain ⟨nl, hnl⟩ : ∃ nl, nl = f.nodes.length := ⟨_, rfl⟩
  rw [← hc00] at hc0 HST0 HW0
  rw [← hnl] at HST0 h128
  have HNL := Lib.hid hnl
  have HC0 := Lib.hid hc0
  obtain ⟨x0, hx0⟩ : ∃ x, x = evW c0 := ⟨_, rfl⟩
  have HX0 := Lib.hid hx0
  rw [← hx0] at HW0
  clear hv hok hs hc0 hc00 hnl hx0 htl
  go_enter Try.func70, Try.ntmps70
  go_wp2_with (first
    | (go_at_call 59; refine (HTY.out _ ((Kept.refl _).alloc _)).mono ?_; rintro e w1 ⟨rfl, hk1⟩; have d0 := hk1.cell (p := ⟨w.heap.size, 0, none⟩) (v := .int .i64 V) (by simp); have d1 := hk1.cell (p := ⟨w.heap.size, 1, none⟩) (v := .slice a n c) (by simp); have d2 := hk1.cell (p := ⟨w.heap.size, 2, none⟩) (v := .int .i64 T) (by simp); have HK1 := Lib.hid (((Kept.refl _).alloc _).trans hk1); clear hk1)
    | (go_at_call 102; refine (HW0.out _).mono ?_; rintro e w2 ⟨⟨u2, rfl, hu2⟩, hk2⟩; obtain ⟨ua2, uc2, rfl⟩ := hu2.shape; obtain ⟨un2, hun2⟩ : ∃ x, x = (nodesOf c0).length := ⟨_, rfl⟩; rw [← hun2] at hu2; rw [← hun2]; have HU2 := Lib.hid hu2; have d0' := hk2.cell d0; have d1' := hk2.cell d1; have d2' := hk2.cell d2; have HK2 := Lib.hid (HK1.out.trans hk2); clear d0 d1 d2 hk2 HK1 hu2 hun2))
  have hsz2 : w.heap.size < w2.heap.size := by
    by_cases h : w.heap.size < w2.heap.size
    · exact h
    · simp [World.cell?, Array.getElem?_eq_none (Nat.le_of_not_lt h)] at d0'
  obtain ⟨L1, hL1⟩ : ∃ L : World, L = w2.alloc (.cells #[.int .i64 x0, .slice ua2 un2 uc2] 102) := ⟨_, rfl⟩
  have HL1 := Lib.hid hL1
  clear hL1
  have e0 := (by rw [HL1.out]; exact ((Kept.refl w2).alloc _).cell d0' : L1.cell? ⟨w.heap.size, 0, none⟩ = some (.int .i64 V))
  have e1 := (by rw [HL1.out]; exact ((Kept.refl w2).alloc _).cell d1' : L1.cell? ⟨w.heap.size, 1, none⟩ = some (.slice a n c))
  have e2 := (by rw [HL1.out]; exact ((Kept.refl w2).alloc _).cell d2' : L1.cell? ⟨w.heap.size, 2, none⟩ = some (.int .i64 T))
  have HKL : Hid (Kept w L1) := Lib.hid (by rw [HL1.out]; exact HK2.out.trans ((Kept.refl w2).alloc _))
  have HO1 : Hid (OwnRfs none L1 0 (.slice (some ⟨w2.heap.size, 0, none⟩) 1 1) [c0]) := Lib.hid (by
    rw [HL1.out]
    exact OwnRfs.one (by rw [← HX0.out]; exact heap_alloc_new w2 _) (HU2.out.kept ((Kept.refl w2).alloc _)) HC0.out (Nat.zero_le _))
  clear d0' d1' d2'
  go_loopg [6, 7] nl (fun kx s6 s7 wr => ∃ (L st : List Nat) (m : Nat) (vr vs : Value), s6 = vr ∧ s7 = vs ∧ m ≤ kx ∧ Hid (Stand V T f L st m ∧ st.length + m ≤ 128) ∧ Hid (OwnRfs vs.ownBlock wr 0 vr L) ∧ Hid (OwnInts wr L1.heap.size vs (ofN st)) ∧ Hid (Kept L1 wr))
  case atStart => exact ⟨[c0], [], nl, _, _, rfl, rfl, Nat.le_refl _, Lib.hid ⟨HST0.out, by simpa using h128⟩, Lib.hid (by have := HO1.out; rw [HL1.out] at this; exact this), Lib.hid (OwnInts.nil _ _), Lib.hid (by rw [HL1.out]; exact Kept.refl _)⟩
  case round =>
    obtain ⟨wo, rfl⟩ : ∃ wo : World, wo = wr := ⟨_, rfl⟩
    obtain ⟨L, st, m, vr, vs, rfl, rfl, hmk, HST, HOR, HOS, HK⟩ := hrel
    obtain ⟨va, vc, hvr, _⟩ := HOR.out.slice
    obtain ⟨ln, hln⟩ : ∃ ln, ln = L.length := ⟨_, rfl⟩
    rw [← hln] at hvr
    have hlb : ln ≤ 1024 := by rw [hln]; exact HST.out.1.len
    subst hvr
    have HLN := Lib.hid hln
    have HG := Lib.hid (rgreatest_any 0 _ L wo HOR.out)
    have d0 := HK.out.cell e0
    have d1 := HK.out.cell e1
    have d2 := HK.out.cell e2
    obtain ⟨sa, sn, sc, hvs⟩ := HOS.out.ints.shape
    subst hvs
    clear hln
    go_wp2_with fail
    refine HG.out.mono ?_
    rintro e w3 ⟨⟨r, rfl, hg⟩, hk3⟩
    have HGT := Lib.hid hg
    have HK3 := Lib.hid hk3
    by_cases hr0 : r < 0
    · clear hg hk3 d0 d1 d2
      go_wp2
      go_ret3
      refine ⟨?_, HKL.out.trans (HK.out.trans HK3.out)⟩
      obtain ⟨R, hR, hp⟩ := HST.out.1.done fun c hc j hj => by have := HGT.out.1 c hc j hj; omega
      rw [hR]
      exact ⟨_, _, _, L, rfl, HOR.out.kept HK3.out, hp, (HOS.out.mono (Nat.zero_le _)).kept HK3.out⟩
    · obtain ⟨i, rfl, hib⟩ := hg.2.resolve_left (by omega)
      obtain ⟨him, hmk2, _⟩ := HST.out.1.at hib fun c hc j hj => by have := hg.1 c hc j hj; omega
      have hle := HST.out.1.le
      have hil : i < f.nodes.length := by omega
      obtain ⟨b, o, n', c', ua, un, uc, hveq, hn', hnr⟩ := HNR.out i hil
      injection hveq with q1 q2 q3
      subst q1
      rw [← q2, ← HNL.out] at hn'
      have hkd := HMO.out i hil hmk2
      have hok := HOK.out
      have h128' := hok.n128
      have hargs : ∀ a ∈ f.nodes[i].args, 0 ≤ a ∧ a < (V : Int) + 128 := fun a ha => by have := hok.args i hil a ha; omega
      have h16 : f.nodes[i].args.length ≤ 16 := argsOk_le (hok.argc i hil)
      have hne : f.nodes[i].kind ≠ 0 → 1 ≤ f.nodes[i].args.length := fun h0 => argsOk_pos (hok.argc i hil) h0
      have hk4 : f.nodes[i].kind = 4 → 1 ≤ f.nodes[i].k ∧ f.nodes[i].k ≤ f.nodes[i].args.length := fun h4 => by
        have := hok.arity i hil
        unfold chkK at this
        rw [if_neg (by omega), if_pos h4] at this
        split at this
        · omega
        · cases this
      have hx : f.nodes.getD i noNd = f.nodes[i] := by simp [List.getD_eq_getElem?_getD, hil]
      obtain ⟨x, hxx⟩ : ∃ x, x = f.nodes[i] := ⟨_, rfl⟩
      rw [← hxx] at hnr hkd hargs h16 hne hk4 hx
      have HX := Lib.hid hx
      have hin : i < n := by rw [hn', HNL.out]; exact hil
      have hi128 : i < 128 := by omega
      have hkw3 := HKL.out.trans (HK.out.trans hk3)
      have HEX := Lib.hid (rexpand_any (Z := (Value.slice sa sn sc).ownBlock) 0 V i b o n c T x ua un uc (.slice va ln vc) L w3 (fun z hz => by have h1 := (HOS.out.1.lt z hz).2; have h2 := hk3.size; omega) h24 (HOR.out.kept hk3) HST.out.1.len hi128 hin (hnr w3 hkw3).1 (hnr w3 hkw3).2 hargs h16 hkd hk4 hne fun c hc j hj => by have := HGT.out.1 c hc j hj; omega)
      have d0' := hk3.cell d0
      have d1' := hk3.cell d1
      have d2' := hk3.cell d2
      have HHI : Hid ((∃ c ∈ L, c.testBit (24 + i) = true) ∧ ∀ c ∈ L, ∀ j, c.testBit (24 + j) = true → j ≤ i) := Lib.hid ⟨hib, fun c hc j hj => by have := hg.1 c hc j hj; omega⟩
      have hsz3 := hk3.size
      clear hnr hkd hargs h16 hk4 hne hx hxx hok hmk2 q2 q3 hn' hg hib hil hk3 d0 d1 d2 hkw3
      go_wp2_with fail
      refine HEX.out.mono ?_
      rintro e w4 ⟨⟨hbig, v4, rfl⟩ | ⟨hsm, v4, rfl, ho4⟩, hk4⟩
      · have HBG := Lib.hid hbig
        have HK4 := Lib.hid hk4
        clear hbig hk4
        go_wp2
        go_ret3
        refine ⟨?_, HKL.out.trans (HK.out.trans (HK3.out.trans HK4.out))⟩
        rw [HST.out.1.full HHI.out.1 HHI.out.2 (by rw [HX.out]; exact HBG.out)]
        exact refRun_none _
      · have HSM := Lib.hid hsm
        have HK4 := Lib.hid hk4
        have HMN := Lib.hid (rminimal_any (w3.heap.size) v4 _ w4 ho4)
        obtain ⟨va4, vc4, rfl, _⟩ := ho4.slice
        have hsz4 := hk4.size
        clear hsm hk4 ho4
        go_wp2_with fail
        refine HMN.out.mono ?_
        rintro e w6 ⟨⟨v6, rfl, ho6⟩, hk6⟩
        have HO6 := Lib.hid ho6
        have HP6 := Lib.hid (refMin_perm (expK V x i L))
        obtain ⟨M, hM⟩ : ∃ M, M = refMin (expK V x i L) := ⟨_, rfl⟩
        rw [← hM] at HO6 HP6
        have hn6b := HO6.out.len
        obtain ⟨va6, vc6, hv6, _⟩ := HO6.out.slice
        obtain ⟨n6, hn6⟩ : ∃ n6, n6 = M.length := ⟨_, rfl⟩
        rw [← hn6] at hv6 hn6b
        subst hv6
        have HN6 := Lib.hid hn6
        have HKA : Hid (Kept wo w6) := Lib.hid (HK3.out.trans (HK4.out.trans hk6))
        have HKB : Hid (Kept L1 w6) := Lib.hid (HK.out.trans HKA.out)
        have hsz6 := hk6.size
        clear hn6 ho6 hk6 hM HMN
        by_cases hbig6 : 1024 < n6
        · have hbig6' : (n6 : Int) > 1024 := by omega
          go_wp2
          go_ret3
          refine ⟨?_, HKL.out.trans HKB.out⟩
          rw [HST.out.1.many (M := M) HHI.out.1 HHI.out.2 (by rw [HX.out]; exact HP6.out) (by rw [← HN6.out]; exact hbig6)]
          exact refRun_none _
        · have hbig6' : ¬ (n6 : Int) > 1024 := by omega
          have HS2 := Lib.hid (HST.out.1.next (M := M) HOK.out HHI.out.1 HHI.out.2 (by rw [HX.out]; exact HSM.out) (by rw [HX.out]; exact HP6.out) (by rw [← HN6.out]; omega))
          have HOS6 := Lib.hid (HOS.out.kept HKA.out)
          have hst := HST.out.2
          have hstl : (ofN st).length = st.length := by simp [ofN]
          have hszL := HKB.out.size
          go_wp2_with (at_builtin; refine app_int_at rfl _ _ rfl L1.heap.size _ (ofN st) rfl (HOS6.out.kept ((Kept.refl _).alloc _)) _ (n6 : Int) rfl (by simp) (by rw [hstl]; omega) (by simp; omega) ?_; intro g7 cap7 w7 hown7 hg7 hat7 hb7; have O7 := Lib.hid hown7; have HB7 := Lib.hid hb7; have HG7 := Lib.hid hg7; have HA7 := Lib.hid hat7; clear hown7 hb7 hg7 hat7)
          go_roundg i
          case measure => omega
          case rel =>
            refine ⟨M, st ++ [n6], i, _, _, rfl, rfl, Nat.le_refl _, Lib.hid ⟨by have := HS2.out; rw [← HN6.out] at this; exact this, by simp; omega⟩, Lib.hid ?_, Lib.hid ?_, Lib.hid ?_⟩
            · exact (OwnRfs.stepped (HO6.out.kept ((Kept.refl _).alloc _)) (HOS6.out.kept ((Kept.refl _).alloc _)) HG7.out HA7.out).mono (Nat.zero_le _)
            · have := O7.out
              simpa [ofN] using this
            · exact (HKB.out.alloc _).app HB7.out
end Go.Proofs.Ytapniojbnochiaa
