import Derived.Test.YtngbjdaaogbjmaaGreatK3
import Derived.Test.YtngbjdaaogbjmaaGreatProg
import Derived.Shelf.SlSortCmp.PdqK
import Derived.Lib.Hide
/-
  Walks over a program that is a variable: swapRange and rotate of slices.SortStableFunc at the rows of truncate.
-/
namespace Go.Proofs.YtngbjdaaogbjmaaGreat.Tr
open Go.Shelf Go.RowKit Go.Lib Go.Sort

/-- What the walks want of the program. -/
structure StL (P : Program) (k : Nat) : Prop where
  mixed : P.follows .mixedOrders = true
  g148 : P.funcs[210]? = some Tryz.f210
  g147 : P.funcs[208]? = some Tryz.f208
  g145 : P.funcs[204]? = some Tryz.f204
  t0 : P.underlying 0 = some (TypeDesc.tuple #[])
  a0 : ∀ (w : World), Sem.run P (isAgg 0) w = Result.ok false w
  z0 : ∀ (w : World), Sem.run P (Go.sizeOf 0) w = Result.ok 1 w
  v0 : ∀ (w : World), Sem.run P (zeroValue 0) w = Result.ok (Value.tuple #[]) w
  t3 : P.underlying 3 = some (TypeDesc.int IntKind.i64)
  a3 : ∀ (w : World), Sem.run P (isAgg 3) w = Result.ok false w
  z3 : ∀ (w : World), Sem.run P (Go.sizeOf 3) w = Result.ok 1 w
  v3 : ∀ (w : World), Sem.run P (zeroValue 3) w = Result.ok (Value.int IntKind.i64 0) w
  t4 : P.underlying 4 = some TypeDesc.bool
  a4 : ∀ (w : World), Sem.run P (isAgg 4) w = Result.ok false w
  z4 : ∀ (w : World), Sem.run P (Go.sizeOf 4) w = Result.ok 1 w
  v4 : ∀ (w : World), Sem.run P (zeroValue 4) w = Result.ok (Value.bool false) w
  tu : P.underlying 90 = some (TypeDesc.int IntKind.u64)
  au : ∀ (w : World), Sem.run P (isAgg 90) w = Result.ok false w
  zu : ∀ (w : World), Sem.run P (Go.sizeOf 90) w = Result.ok 1 w
  vu : ∀ (w : World), Sem.run P (zeroValue 90) w = Result.ok (Value.int IntKind.u64 0) w
  t22 : P.underlying 105 = some (TypeDesc.slice 109)
  a22 : ∀ (w : World), Sem.run P (isAgg 105) w = Result.ok false w
  z22 : ∀ (w : World), Sem.run P (Go.sizeOf 105) w = Result.ok 1 w
  v22 : ∀ (w : World), Sem.run P (zeroValue 105) w = Result.ok (Value.slice none 0 0) w
  t25 : P.underlying 155 = some (TypeDesc.func #[109, 109] #[3] false)
  a25 : ∀ (w : World), Sem.run P (isAgg 155) w = Result.ok false w
  z25 : ∀ (w : World), Sem.run P (Go.sizeOf 155) w = Result.ok 1 w
  v25 : ∀ (w : World), Sem.run P (zeroValue 155) w = Result.ok Value.nilFunc w
  aE : ∀ (w : World), Sem.run P (isAgg 109) w = Result.ok true w
  zE : ∀ (w : World), Sem.run P (Go.sizeOf 109) w = Result.ok k w
theorem stL : StL Tryz.prog 3 where
  mixed := by kernel_rfl
  g148 := Tryz.func210
  g147 := Tryz.func208
  g145 := Tryz.func204
  t0 := Tryz.underlying0
  a0 := Tryz.isAgg0
  z0 := Tryz.sizeOf0
  v0 := Tryz.zeroValue0
  t3 := Tryz.underlying3
  a3 := Tryz.isAgg3
  z3 := Tryz.sizeOf3
  v3 := Tryz.zeroValue3
  t4 := Tryz.underlying4
  a4 := Tryz.isAgg4
  z4 := Tryz.sizeOf4
  v4 := Tryz.zeroValue4
  tu := Tryz.underlying90
  au := Tryz.isAgg90
  zu := Tryz.sizeOf90
  vu := Tryz.zeroValue90
  t22 := Tryz.underlying105
  a22 := Tryz.isAgg105
  z22 := Tryz.sizeOf105
  v22 := Tryz.zeroValue105
  t25 := Tryz.underlying155
  a25 := Tryz.isAgg155
  z25 := Tryz.sizeOf155
  v25 := Tryz.zeroValue155
  aE := Tryz.isAgg109
  zE := Tryz.sizeOf109
section
variable {P : Program} {α : Type} [Inhabited α]
set_option maxHeartbeats 4000000 in
set_option maxRecDepth 1000000 in
theorem swapRange_o (k : Nat) (L : StL P k) (enc : α → List Value) (g : Nat) (cb : Array Value) (blk off cap a b n : Nat) (d0 d : Array α) (w0 w : World)
    (R : RowK enc k w0 blk off d0) (hs : d0.size = d.size) (S : SWK enc k w0 blk off d w) (hab : a + n ≤ b) (hb : b + n ≤ d.size) (hsz : d.size < 4611686018427387904) :
    Calls P 210 #[.slice (some ⟨blk, off, none⟩) d.size cap, .int .i64 a, .int .i64 b, .int .i64 n, .func (.func g) #[] cb] w fun e w' => e = .returned (.tuple #[]) ∧ ∃ dn, Swd a b n d dn ∧ SWK enc k w0 blk off dn w' := by
  have mixed := L.mixed; have t0 := L.t0; have a0 := L.a0; have z0 := L.z0; have v0 := L.v0; have t3 := L.t3; have a3 := L.a3; have z3 := L.z3; have v3 := L.v3; have t4 := L.t4; have a4 := L.a4; have z4 := L.z4; have v4 := L.v4; have t22 := L.t22; have a22 := L.a22; have z22 := L.z22; have v22 := L.v22; have t25 := L.t25; have a25 := L.a25; have z25 := L.z25; have v25 := L.v25; have aE := L.aE; have zE := L.zE
  have FG := L.g148
  have S0 : Aside (SWK enc k w0 blk off d w) := S
  clear S L
  go_enter FG, Tryz.ntmps210
  go_wp2
  go_loopg [10] n (fun kx s10 wr => ∃ (q : Nat) (dk : Array α), s10 = .int .i64 q ∧ q ≤ n ∧ n - q ≤ kx ∧ dk.size = d.size ∧ Aside (SWK enc k w0 blk off dk wr) ∧ Hid (Swd a b q d dk))
  case atStart => exact ⟨0, d, rfl, Nat.zero_le _, by omega, rfl, S0, Lib.hid (Swd.start a b d)⟩
  case round =>
    clear S0
    obtain ⟨q, dk, rfl, hq, hkx, hds, S1, HW⟩ := hrel
    by_cases hlt : q < n
    · have hltz : (q : Int) < (n : Int) := by omega
      go_wp2_with fail
      have wa : IntKind.i64.wrap ((a : Int) + (q : Int)) = ((a + q : Nat) : Int) := by rw [IntKind.wrap_i64]; omega
      have wa' : (a : Int) + (q : Int) = ((a + q : Nat) : Int) := by omega
      have wb : IntKind.i64.wrap ((b : Int) + (q : Int)) = ((b + q : Nat) : Int) := by rw [IntKind.wrap_i64]; omega
      have wb' : (b : Int) + (q : Int) = ((b + q : Nat) : Int) := by omega
      obtain ⟨x, hx⟩ : ∃ x, x = a + q := ⟨_, rfl⟩
      obtain ⟨y, hy⟩ : ∃ y, y = b + q := ⟨_, rfl⟩
      have HXY : Hid (x = a + q ∧ y = b + q) := ⟨hx, hy⟩
      rw [← hx] at wa wa'
      rw [← hy] at wb wb'
      have hxs : x < d.size := by omega
      have hys : y < d.size := by omega
      clear hx hy
      have ea44 : ((x : Int)).toNat = x := by omega
      have pa44 : (0 : Int) ≤ (x : Int) := by omega
      have ba44 : (x : Int) < (d.size : Int) := by omega
      have ec44 : ((y : Int)).toNat = y := by omega
      have pc44 : (0 : Int) ≤ (y : Int) := by omega
      have bc44 : (y : Int) < (d.size : Int) := by omega
      have S2 : Aside (SWK enc k w0 blk off (swp dk x y) ((wr.drew.setCells blk (off + x * k) (enc dk[y]!)).setCells blk (off + y * k) (enc dk[x]!))) := S1.out.swapped R x y (by omega) (by omega)
      have l44a := S1.out.ld1 R (by omega) P x (by omega)
      have l44b := S1.out.ld1 R (by omega) P y (by omega)
      have s44a := S1.out.st1 R (by omega) P x (by omega) dk[y]!
      have s44b := S1.out.st2 R (by omega) P x y (by omega) (by omega) dk[y]! dk[x]!
      have n44a : (enc dk[x]!).length = k := R.hk _
      have n44b : (enc dk[y]!).length = k := R.hk _
      generalize enc dk[x]! = cI44 at S2 l44a s44b n44a
      generalize enc dk[y]! = cJ44 at S2 l44b s44a s44b n44b
      clear S1
      go_big_region_o
      clear l44a l44b s44a s44b
      generalize (wr.drew.setCells blk (off + x * k) cJ44).setCells blk (off + y * k) cI44 = w2 at S2 ⊢
      go_wp2
      go_roundg (n - (q + 1))
      case measure => omega
      case rel => exact ⟨q + 1, swp dk x y, by go_num, by omega, Nat.le_refl _, by rw [Go.Sort.size_swp]; exact hds, S2, by rw [HXY.out.1, HXY.out.2]; exact Lib.hid (HW.out.step (by omega) (by omega))⟩
    · have hltz : ¬ (q : Int) < (n : Int) := by omega
      have hke : q = n := by omega
      subst hke
      go_wp2
      go_end0
      exact ⟨rfl, dk, HW.out, S1.out⟩
set_option maxHeartbeats 4000000 in
set_option maxRecDepth 1000000 in
theorem rotate_o (k : Nat) (L : StL P k) (enc : α → List Value) (g : Nat) (cb : Array Value) (blk off cap a m b : Nat) (d0 d : Array α) (w0 w : World)
    (R : RowK enc k w0 blk off d0) (hs : d0.size = d.size) (S : SWK enc k w0 blk off d w) (ham : a < m) (hmb : m < b) (hb : b ≤ d.size) (hsz : d.size < 4611686018427387904) :
    Calls P 208 #[.slice (some ⟨blk, off, none⟩) d.size cap, .int .i64 a, .int .i64 m, .int .i64 b, .func (.func g) #[] cb] w fun e w' => e = .returned (.tuple #[]) ∧ ∃ dn, Rot a m b d dn ∧ SWK enc k w0 blk off dn w' := by
  have t0 := L.t0; have a0 := L.a0; have z0 := L.z0; have v0 := L.v0; have t3 := L.t3; have a3 := L.a3; have z3 := L.z3; have v3 := L.v3; have t4 := L.t4; have a4 := L.a4; have z4 := L.z4; have v4 := L.v4; have t22 := L.t22; have a22 := L.a22; have z22 := L.z22; have v22 := L.v22; have t25 := L.t25; have a25 := L.a25; have z25 := L.z25; have v25 := L.v25
  have FG := L.g147
  have e148 : ∀ args w, (callFunc 210 args).run P w = .ok (.enter 210 args) w := enters_of L.g148 (by kernel_rfl) rfl
  have HSW : Hid (∀ (a b n : Nat) (dk : Array α) (wr : World), d0.size = dk.size → SWK enc k w0 blk off dk wr → a + n ≤ b → b + n ≤ dk.size → dk.size < 4611686018427387904 →
    Calls P 210 #[.slice (some ⟨blk, off, none⟩) dk.size cap, .int .i64 a, .int .i64 b, .int .i64 n, .func (.func g) #[] cb] wr fun e w' => e = .returned (.tuple #[]) ∧ ∃ dn, Swd a b n dk dn ∧ SWK enc k w0 blk off dn w') :=
    Lib.hid fun a b n dk wr h1 h2 h3 h4 h5 => swapRange_o k L enc g cb blk off cap a b n d0 dk w0 wr R h1 h2 h3 h4 h5
  have S0 : Aside (SWK enc k w0 blk off d w) := S
  clear S L
  have wi : IntKind.i64.wrap ((m : Int) - (a : Int)) = ((m - a : Nat) : Int) := by rw [IntKind.wrap_i64]; omega
  have wi' : (m : Int) - (a : Int) = ((m - a : Nat) : Int) := by omega
  have wj : IntKind.i64.wrap ((b : Int) - (m : Int)) = ((b - m : Nat) : Int) := by rw [IntKind.wrap_i64]; omega
  have wj' : (b : Int) - (m : Int) = ((b - m : Nat) : Int) := by omega
  go_enter FG, Tryz.ntmps208
  go_wp2
  clear wi wi' wj wj'
  go_loopg [10, 11] (b - a) (fun kx s10 s11 wr => ∃ (i j : Nat) (dk : Array α), s10 = .int .i64 i ∧ s11 = .int .i64 j ∧ 0 < i ∧ 0 < j ∧ i + j ≤ kx ∧ dk.size = d.size ∧ Aside (SWK enc k w0 blk off dk wr) ∧ Hid (RotTo a m b d i j dk))
  case atStart => exact ⟨m - a, b - m, d, rfl, rfl, by omega, by omega, by omega, rfl, S0, Lib.hid (RotTo.start d (by omega) (by omega))⟩
  case round =>
    clear S0
    obtain ⟨i, j, dk, rfl, rfl, hi, hj, hkx, hds, S1, HW⟩ := hrel
    have hb3 := HW.out.2.2.1
    have hb4 := HW.out.2.2.2.1
    have hb5 := HW.out.2.2.2.2
    rcases Nat.lt_trichotomy i j with hlt | heq | hgt
    · have q1 : ((i : Int) == (j : Int)) = false := by simp; omega
      have q2 : ¬ (j : Int) < (i : Int) := by omega
      have q3 : ((i : Int) != (j : Int)) = true := by simp; omega
      obtain ⟨p1, hp1⟩ : ∃ x, x = m - i := ⟨_, rfl⟩
      obtain ⟨p2, hp2⟩ : ∃ x, x = m + j := ⟨_, rfl⟩
      obtain ⟨p3, hp3⟩ : ∃ x, x = m + j - i := ⟨_, rfl⟩
      obtain ⟨p4, hp4⟩ : ∃ x, x = j - i := ⟨_, rfl⟩
      have u1 : IntKind.i64.wrap ((m : Int) - (i : Int)) = (p1 : Int) := by rw [IntKind.wrap_i64]; omega
      have u1' : (m : Int) - (i : Int) = (p1 : Int) := by omega
      have u2' : (m : Int) + (j : Int) = (p2 : Int) := by omega
      have u3' : (p2 : Int) - (i : Int) = (p3 : Int) := by omega
      have u4 : IntKind.i64.wrap ((j : Int) - (i : Int)) = (p4 : Int) := by rw [IntKind.wrap_i64]; omega
      have u4' : (j : Int) - (i : Int) = (p4 : Int) := by omega
      have hc := HSW.out (m - i) (m + j - i) i dk wr (by omega) S1.out (by omega) (by omega) (by omega)
      have HN := Lib.hid (fun dn h => HW.out.left hb hlt (dn := dn) h)
      rw [hds, ← hp1, ← hp3] at hc
      rw [← hp1, ← hp3, ← hp4] at HN
      have HC := Lib.hid hc
      have hp4' : 0 < p4 := by omega
      have hpm : p4 < j := by omega
      have b2 : (p2 : Int) < 4611686018427387904 := by omega
      have b3 : (p3 : Int) < 4611686018427387904 := by omega
      clear hb3 hb4 hb5 hc hp1 hp2 hp3 hp4 S1 hds HW
      go_wp2_with (go_at_fn 210; refine HC.out.mono ?_; rintro e w2 ⟨rfl, dn, hsw, hsk⟩)
      have HR := Lib.hid (HN.out dn hsw)
      have hdn := HR.out.1.1
      have S2 : Aside (SWK enc k w0 blk off dn w2) := hsk
      clear hsw hsk HC HN u1 u1' u2' u3'
      go_wp2
      clear u4 u4'
      go_roundg (i + p4)
      case measure => omega
      case rel => exact ⟨i, p4, dn, rfl, rfl, hi, hp4', Nat.le_refl _, hdn, S2, HR⟩
    · subst heq
      have q1 : ((i : Int) == (i : Int)) = true := by simp
      have q3 : ((i : Int) != (i : Int)) = false := by simp
      obtain ⟨p1, hp1⟩ : ∃ x, x = m - i := ⟨_, rfl⟩
      have u1 : IntKind.i64.wrap ((m : Int) - (i : Int)) = (p1 : Int) := by rw [IntKind.wrap_i64]; omega
      have u1' : (m : Int) - (i : Int) = (p1 : Int) := by omega
      have hc := HSW.out (m - i) m i dk wr (by omega) S1.out (by omega) (by omega) (by omega)
      have HN := Lib.hid (fun dn h => HW.out.done hb (dn := dn) h)
      rw [hds, ← hp1] at hc
      rw [← hp1] at HN
      have HC := Lib.hid hc
      clear hb3 hb4 hb5 hc hp1 S1 hds HW
      go_wp2_with (go_at_fn 210; refine HC.out.mono ?_; rintro e w2 ⟨rfl, dn, hsw, hsk⟩)
      go_end0
      exact ⟨rfl, dn, HN.out dn hsw, hsk⟩
    · have q1 : ((i : Int) == (j : Int)) = false := by simp; omega
      have q2 : (j : Int) < (i : Int) := by omega
      have q3 : ((i : Int) != (j : Int)) = true := by simp; omega
      obtain ⟨p1, hp1⟩ : ∃ x, x = m - i := ⟨_, rfl⟩
      obtain ⟨p4, hp4⟩ : ∃ x, x = i - j := ⟨_, rfl⟩
      have u1 : IntKind.i64.wrap ((m : Int) - (i : Int)) = (p1 : Int) := by rw [IntKind.wrap_i64]; omega
      have u1' : (m : Int) - (i : Int) = (p1 : Int) := by omega
      have u4 : IntKind.i64.wrap ((i : Int) - (j : Int)) = (p4 : Int) := by rw [IntKind.wrap_i64]; omega
      have u4' : (i : Int) - (j : Int) = (p4 : Int) := by omega
      have hc := HSW.out (m - i) m j dk wr (by omega) S1.out (by omega) (by omega) (by omega)
      have HN := Lib.hid (fun dn h => HW.out.right hb hgt (dn := dn) h)
      rw [hds, ← hp1] at hc
      rw [← hp1, ← hp4] at HN
      have HC := Lib.hid hc
      have hp4' : 0 < p4 := by omega
      have hpm : p4 < i := by omega
      clear hb3 hb4 hb5 hc hp1 hp4 S1 hds HW
      go_wp2_with (go_at_fn 210; refine HC.out.mono ?_; rintro e w2 ⟨rfl, dn, hsw, hsk⟩)
      have HR := Lib.hid (HN.out dn hsw)
      have hdn := HR.out.1.1
      have S2 : Aside (SWK enc k w0 blk off dn w2) := hsk
      clear hsw hsk HC HN u1 u1' u4 u4'
      go_wp2
      go_roundg (p4 + j)
      case measure => omega
      case rel => exact ⟨p4, j, dn, rfl, rfl, hp4', hj, Nat.le_refl _, hdn, S2, HR⟩
end
end Go.Proofs.YtngbjdaaogbjmaaGreat.Tr
