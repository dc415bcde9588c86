import Derived.Test.YtpaedhlacbpmpaaGreatDoorRows
import Derived.WalkKit
import Derived.WalkSpells
import Derived.WalkLawsBesides
import Derived.Deep.QuietTactic
import Derived.BigQuiet
import Derived.Lib.Hide
import Derived.Shelf.Abstract
import Derived.Deep.RegionWith
import Derived.Laws.AppendOwnNone
import Derived.Lib.AppendZerosOnto
import Derived.Lib.SliceRun
import Derived.Lib.SlicesCompact
import Derived.Shelf.SlSortCmp.NoneTotal
import Derived.Test.YtpaedhlacbpmpaaGreatDoorShelf
import Derived.Maps.OwnOps
import Derived.Maps.OwnSet
import Derived.Maps.Views
import Derived.Deep.MidRow
import Derived.Deep.RegionHeld3
import Derived.Deep.AppendLies
import Derived.Deep.RegionLaw
import Derived.IntWalk
import Derived.StillTailTactics
import Derived.ProofKit
import Derived.OpenShut
import Derived.SizedLaws
import Derived.Lib.SmallJoins
import Derived.Deep.Slices
import Derived.Deep.Fields
import Derived.Deep.Strs
import Derived.Carry
import Derived.Deep.DeepCutAuto
/-
  What the walks say of memory: slices of ints and of slices, and how such readings stay. Plain lemmas on worlds.
-/
namespace Go.Proofs.YtpaedhlacbpmpaaGreatDoor
open Go.RowKit

/-- No memory that lay there has changed. -/
abbrev Kept (w w' : World) : Prop := Below w.heap.size w w'

theorem Kept.refl (w : World) : Kept w w := Below.refl _ _
theorem Kept.trans {a b c : World} (h : Kept a b) (k : Kept b c) : Kept a c := Below.trans h (Below.mono k h.size)
theorem Kept.drew {a w : World} (h : Kept a w) : Kept a w.drew := Below.drew h
theorem Kept.alloc {a w : World} (h : Kept a w) (o : Obj) : Kept a (w.alloc o) := Below.alloc h h.size o
theorem Kept.cell {w w' : World} (h : Kept w w') {p : Addr} {v : Value} (hc : w.cell? p = some v) : w'.cell? p = some v :=
  (Below.cell h (World.block_lt_of_cell? w _ hc)).trans hc
theorem Kept.drewN {a w : World} (h : Kept a w) (n : Nat) : Kept a (w.drewN n) := ⟨h.os, h.tape, h.output, h.size, h.block⟩

theorem Kept.app {a b c : World} (h : Kept a b) (k : Below a.heap.size b c) : Kept a c := Below.trans h k

/-- A slice of ints that can be read. -/
def IntsAt (w : World) (v : Value) (xs : List Int) : Prop :=
  ∃ (a : Option Addr) (c : Nat), v = .slice a xs.length c ∧ (xs.length ≤ c ∧ (a = none → c = 0)) ∧ xs.length ≤ 140737488355328 ∧
    ∀ i (h : i < xs.length), ∃ b o, a = some ⟨b, o, none⟩ ∧ w.cell? ⟨b, o + i, none⟩ = some (.int .i64 xs[i])

theorem IntsAt.kept {w w' : World} {v : Value} {xs : List Int} (h : IntsAt w v xs) (hb : Kept w w') : IntsAt w' v xs := by
  obtain ⟨a, c, h1, h0, h2, h3⟩ := h
  refine ⟨a, c, h1, h0, h2, fun i hi => ?_⟩
  obtain ⟨b, o, h4, h5⟩ := h3 i hi
  exact ⟨b, o, h4, hb.cell h5⟩

theorem IntsAt.shape {w : World} {v : Value} {xs : List Int} (h : IntsAt w v xs) : ∃ a n c, v = .slice a n c := by
  obtain ⟨a, c, h1, _⟩ := h
  exact ⟨a, _, c, h1⟩

theorem IntsAt.nil (w : World) : IntsAt w (.slice none 0 0) [] := ⟨none, 0, rfl, ⟨by simp, fun _ => rfl⟩, by simp, fun i h => by simp at h⟩

/-- A slice whose cells hold values of which R speaks, each of one cell. -/
def RowsAt {α : Type} (R : World → Value → α → Prop) (w : World) (v : Value) (xs : List α) : Prop :=
  ∃ (a : Option Addr) (c : Nat), v = .slice a xs.length c ∧ (xs.length ≤ c ∧ (a = none → c = 0)) ∧ xs.length ≤ 140737488355328 ∧
    ∀ i (h : i < xs.length), ∃ b o u, a = some ⟨b, o, none⟩ ∧ w.cell? ⟨b, o + i, none⟩ = some u ∧ R w u xs[i]

/-- An error by its number; 0: none. -/
def errV (c : Nat) : Value := if c = 0 then .nilIface else .iface 50 (.int .i64 c)
theorem errV_zero : errV 0 = .nilIface := rfl
theorem errV_pos {c : Nat} (h : c ≠ 0) : errV c = .iface 50 (.int .i64 c) := by simp [errV, h]

/-- An int slice of the call's own. -/
def OwnInts (w : World) (B : Nat) (v : Value) (xs : List Int) : Prop :=
  w.ownsRow B 3 1 v xs.length (xs.map (Value.int .i64)) ∧ xs.length ≤ 140737488355328

theorem OwnInts.ints {w : World} {B : Nat} {v : Value} {xs : List Int} (h : OwnInts w B v xs) : IntsAt w v xs := by
  obtain ⟨⟨h1, h2⟩, h3⟩ := h
  rcases h2 with ⟨rfl, h4⟩ | ⟨g, cap, cur, rfl, h5, h6, h7, h8, h9, h10⟩
  · have : xs = [] := List.eq_nil_of_length_eq_zero h4
    subst this
    exact IntsAt.nil w
  · refine ⟨_, cap, rfl, ⟨h7, fun h => by cases h⟩, h3, fun i hi => ⟨g, 0, rfl, ?_⟩⟩
    have e1 : (cur.toList.take (xs.length * 1))[i]? = (xs.map (Value.int .i64))[i]? := by rw [h10]
    rw [List.getElem?_take_of_lt (by omega)] at e1
    simp only [World.cell?, h6, Nat.zero_add]
    simpa [hi] using e1

theorem own_kept {w w' : World} {B : Nat} {e : TypeId} {size : Nat} {v : Value} {n : Nat} {xs : List Value} (h : w.ownsRow B e size v n xs) (hb : Kept w w') : w'.ownsRow B e size v n xs := by
  obtain ⟨h1, h2⟩ := h
  refine ⟨h1, h2.imp id ?_⟩
  rintro ⟨g, cap, cur, h3, h4, h5, h6⟩
  have hg : g < w.heap.size := by
    rcases Nat.lt_or_ge g w.heap.size with h | h
    · exact h
    · simp [Array.getElem?_eq_none h] at h5
  exact ⟨g, cap, cur, h3, h4, (hb.block g hg).trans h5, h6⟩
theorem OwnInts.kept {w w' : World} {B : Nat} {v : Value} {xs : List Int} (h : OwnInts w B v xs) (hb : Kept w w') : OwnInts w' B v xs := ⟨own_kept h.1 hb, h.2⟩
theorem OwnInts.nil (w : World) (B : Nat) : OwnInts w B (.slice none 0 0) [] := ⟨World.ownsRow_nil _ _ _ _, by simp⟩
theorem own_mono {w : World} {B B' : Nat} {e : TypeId} {size : Nat} {v : Value} {n : Nat} {xs : List Value} (h : w.ownsRow B e size v n xs) (hb : B' ≤ B) : w.ownsRow B' e size v n xs := by
  obtain ⟨h1, h2⟩ := h
  refine ⟨h1, h2.imp id ?_⟩
  rintro ⟨g, cap, cur, h3, h4, h5⟩
  exact ⟨g, cap, cur, h3, by omega, h5⟩
/-- What an append to a row of the call's own leaves unchanged. -/
theorem grown_below {B : Nat} {w w' : World} {v : Value} {e : TypeId} {size n : Nat} {xs : List Value} (hg : w.grownBy w' v.ownBlock) (ho : w.ownsRow B e size v n xs) (hB : B ≤ w.heap.size) : Below B w w' :=
  Below.grown (Below.refl _ _) hg hB fun k hk => (ho.lt k hk).1

end Go.Proofs.YtpaedhlacbpmpaaGreatDoor

/-
  The laws of append, make and indexing for the slices of the call's own, in the words of B0.
-/
namespace Go.Proofs.YtpaedhlacbpmpaaGreatDoor
open Go.RowKit

theorem info_int : (Tryz.prog.info? 3).map (fun i => (i.zero, i.size, i.bytes)) = some (some (.int .i64 0), 1, 8) := by kernel_rfl
variable {ops : Array Oper} {rest : List Oper} {o : Oper} {a : Act} {Q : Exit → Act → World → Prop} {w : World}

/-- append of one cell to a row of the call's own. -/
theorem app_one (t e : TypeId) (z : Value) (bytes : Nat) (hi : (Tryz.prog.info? e).map (fun i => (i.zero, i.size, i.bytes)) = some (some z, 1, bytes)) (ht : Tryz.prog.underlying t = some (.slice e)) (hz : z.cells.size = 1) (hgd : o.guard = none) (s x : Operand)
    (ho : o.op = .call { callee := .builtin .append, args := #[s, x], argTypes := #[t, t] }) (B : Nat) (v : Value) (xs : List Value) (hs : a.eval s = v) (hown : w.ownsRow B e 1 v xs.length xs)
    (ad : Addr) (y : Value) (hx : a.eval x = .slice (some ad) 1 1) (hc : w.cell? ad = some y) (h1 : y.oneCell' = true) (hl : (xs.length + 1) * bytes ≤ 140737488355328) (hl2 : xs.length + 1 ≤ maxLen) (hB : B ≤ w.heap.size)
    (h : ∀ v' w', w'.ownsRow B e 1 v' (xs ++ [y]).length (xs ++ [y]) → w.grownBy w' v.ownBlock → Below B w w' → wpList Tryz.prog ops Q rest (a.put o.dst v') w') : wpList Tryz.prog ops Q (o :: rest) a w := by
  obtain ⟨i0, hi0, hz0, hz1, hz2⟩ := info_parts hi
  refine wpList_append_own _ hgd s x t ho B e i0 z 1 bytes ht hi0 hz0 hz1 hz2 hz (by decide) v xs.length xs hs hown ad 1 1 [y] hx rfl ?_ ?_ hl2 hl hB ?_
  · intro j u hj
    match j, hj with
    | 0, hj => simp at hj; subst hj; simpa [Addr.add] using hc
  · intro u hu; simp at hu; subst hu; exact h1
  · intro v' w' h2 h3 _
    refine h v' w' ?_ h3 (grown_below h3 hown hB)
    simpa using h2

theorem app_int (hgd : o.guard = none) (s x : Operand)
    (ho : o.op = .call { callee := .builtin .append, args := #[s, x], argTypes := #[78, 78] }) (B : Nat) (v : Value) (xs : List Int) (hs : a.eval s = v) (hown : OwnInts w B v xs)
    (ad : Addr) (y : Int) (hx : a.eval x = .slice (some ad) 1 1) (hc : w.cell? ad = some (.int .i64 y)) (hl : xs.length < 17592186044416) (hB : B ≤ w.heap.size)
    (h : ∀ v' w', OwnInts w' B v' (xs ++ [y]) → w.grownBy w' v.ownBlock → Below B w w' → wpList Tryz.prog ops Q rest (a.put o.dst v') w') : wpList Tryz.prog ops Q (o :: rest) a w := by
  refine app_one 78 3 _ 8 info_int Tryz.underlying78 rfl hgd s x ho B v (xs.map (.int .i64)) hs (by simpa using hown.1) ad _ hx hc rfl (by simp; omega) (by simp [maxLen]; omega) hB ?_
  intro v' w' h2 h3 h4
  refine h v' w' ⟨?_, by simp; omega⟩ h3 h4
  simpa using h2

end Go.Proofs.YtpaedhlacbpmpaaGreatDoor

/-
  Walks: sets.Valid, Cut, Has, Subset; slices.IndexFunc, ContainsFunc at []int.
-/
namespace Go.Proofs.YtpaedhlacbpmpaaGreatDoor
open Go.RowKit

theorem valid_any (s : Int) (w : World) : Calls Tryz.prog 62 #[.int .i64 s] w fun e w' => e = .returned (.bool (decide (0 ≤ s ∧ s ≤ 16777215))) ∧ w = w' := by
  by_cases h : 0 ≤ s
  · by_cases h2 : s ≤ 16777215
    all_goals
      go_enter Tryz.func62, Tryz.ntmps62
      go_wp2
      go_ret
      exact ⟨by simp [h, h2], rfl⟩
  · go_enter Tryz.func62, Tryz.ntmps62
    go_wp2
    go_ret
    exact ⟨by congr 2; simp; omega, rfl⟩
theorem cut_any (s : Int) (w : World) : Calls Tryz.prog 105 #[.int .i64 s] w fun e w' => e = .returned (.int .i64 (bits .and .i64 s 16777215)) ∧ w = w' := by
  go_enter Tryz.func105, Tryz.ntmps105
  go_wp2
  go_ret
  exact ⟨rfl, rfl⟩
def subB (a b : Int) : Bool := bits .andNot .i64 (bits .and .i64 a 16777215) b == 0
theorem subset_any (a b : Int) (w : World) : Calls Tryz.prog 65 #[.int .i64 a, .int .i64 b] w fun e w' => e = .returned (.bool (subB a b)) ∧ w = w' := by
  go_enter Tryz.func65, Tryz.ntmps65
  go_wp2_with (go_at_call 105; refine (cut_any _ _).mono ?_; rintro e w' ⟨rfl, rfl⟩)
  go_ret
  exact ⟨rfl, rfl⟩

/-- A function value that decides p, wherever it is called. -/
def Decides (g : Nat) (lb : Array Value) (p : Int → Bool) (w : World) : Prop :=
  ∀ (W : World) (x : Int), Kept w W → Calls Tryz.prog g (#[.int .i64 x] ++ lb) W fun e W' => e = .returned (.bool (p x)) ∧ Kept W W'

end Go.Proofs.YtpaedhlacbpmpaaGreatDoor

/-
  Walks: slices.ContainsFunc; family.minimal.
-/
namespace Go.Proofs.YtpaedhlacbpmpaaGreatDoor
open Go.RowKit

def keepMin (out : List Int) (s : Int) : List Int := if out.any (fun t => subB t s) then out else out ++ [s]
def minOf (l : List Int) : List Int := l.foldl keepMin []
end Go.Proofs.YtpaedhlacbpmpaaGreatDoor

/-
  Plain numbers: what the bit operations are on masks; the number of bits by the swar sum.
-/
namespace Go.Proofs.YtpaedhlacbpmpaaGreatDoor
open Go.RowKit

theorem wrap_u64 (n : Nat) (h : n < 18446744073709551616) : IntKind.u64.wrap (n : Int) = n := by
  have h1 : IntKind.u64.wrap (n : Int) = (n : Int) % 18446744073709551616 := rfl
  rw [h1]; omega
theorem wrap_i64 (x : Int) (h0 : 0 ≤ x) (h : x < 9223372036854775808) : IntKind.i64.wrap x = x := by
  rw [IntKind.wrap_i64]; omega
theorem ofNat_toNat (n : Nat) (h : n < 18446744073709551616) : (BitVec.ofInt 64 (n : Int)).toNat = n := by
  simp; omega
theorem and_u64 (a b : Nat) (ha : a < 18446744073709551616) (hb : b < 18446744073709551616) : bits .and .u64 (a : Int) (b : Int) = ((a &&& b : Nat) : Int) := by
  have h : (BitVec.ofInt 64 (a : Int) &&& BitVec.ofInt 64 (b : Int)).toNat = a &&& b := by rw [BitVec.toNat_and, ofNat_toNat a ha, ofNat_toNat b hb]
  show IntKind.u64.wrap (((BitVec.ofInt 64 (a : Int) &&& BitVec.ofInt 64 (b : Int)).toNat : Nat) : Int) = _
  rw [h]; exact wrap_u64 _ (Nat.lt_of_le_of_lt Nat.and_le_left ha)
theorem and_i64 (a b : Nat) (ha : a < 9223372036854775808) (hb : b < 9223372036854775808) : bits .and .i64 (a : Int) (b : Int) = ((a &&& b : Nat) : Int) := by
  have h : (BitVec.ofInt 64 (a : Int) &&& BitVec.ofInt 64 (b : Int)).toNat = a &&& b := by rw [BitVec.toNat_and, ofNat_toNat a (by omega), ofNat_toNat b (by omega)]
  show IntKind.i64.wrap (((BitVec.ofInt 64 (a : Int) &&& BitVec.ofInt 64 (b : Int)).toNat : Nat) : Int) = _
  rw [h]; have := Nat.and_le_left (n := a) (m := b); exact wrap_i64 _ (by omega) (by omega)
theorem or_i64 (a b : Nat) (ha : a < 9223372036854775808) (hb : b < 9223372036854775808) : bits .or .i64 (a : Int) (b : Int) = ((a ||| b : Nat) : Int) := by
  have h : (BitVec.ofInt 64 (a : Int) ||| BitVec.ofInt 64 (b : Int)).toNat = a ||| b := by rw [BitVec.toNat_or, ofNat_toNat a (by omega), ofNat_toNat b (by omega)]
  show IntKind.i64.wrap (((BitVec.ofInt 64 (a : Int) ||| BitVec.ofInt 64 (b : Int)).toNat : Nat) : Int) = _
  rw [h]; have := Nat.or_lt_two_pow (n := 63) (x := a) (y := b) (by omega) (by omega); exact wrap_i64 _ (by omega) (by omega)
/-- a without b. -/
def sdiff (a b : Nat) : Nat := a ^^^ (a &&& b)
theorem andNot_i64 (a b : Nat) (ha : a < 9223372036854775808) (hb : b < 9223372036854775808) : bits .andNot .i64 (a : Int) (b : Int) = ((sdiff a b : Nat) : Int) := by
  have h : (BitVec.ofInt 64 (a : Int) &&& ~~~ BitVec.ofInt 64 (b : Int)).toNat = sdiff a b := by
    have e : BitVec.ofInt 64 (a : Int) &&& ~~~ BitVec.ofInt 64 (b : Int) = BitVec.ofInt 64 (a : Int) ^^^ (BitVec.ofInt 64 (a : Int) &&& BitVec.ofInt 64 (b : Int)) := by
      ext i hi
      simp only [BitVec.getElem_and, BitVec.getElem_not, BitVec.getElem_xor]
      cases (BitVec.ofInt 64 (a : Int))[i] <;> cases (BitVec.ofInt 64 (b : Int))[i] <;> rfl
    rw [e, BitVec.toNat_xor, BitVec.toNat_and, ofNat_toNat a (by omega), ofNat_toNat b (by omega)]; rfl
  show IntKind.i64.wrap (((BitVec.ofInt 64 (a : Int) &&& ~~~ BitVec.ofInt 64 (b : Int)).toNat : Nat) : Int) = _
  rw [h]
  have h2 : sdiff a b < 2 ^ 63 := Nat.xor_lt_two_pow (by omega) (Nat.lt_of_le_of_lt Nat.and_le_left (by omega))
  exact wrap_i64 _ (by omega) (by omega)

/-- The number of bits. -/
def pc (n : Nat) : Nat := if n = 0 then 0 else n % 2 + pc (n / 2)
decreasing_by omega
theorem and_256 (h l H L : Nat) (hl : l < 256) (hL : L < 256) : (256 * h + l) &&& (256 * H + L) = 256 * (h &&& H) + (l &&& L) := by
  have h1 : ((256 * h + l) &&& (256 * H + L)) % 2 ^ 8 = l &&& L := by
    rw [Nat.and_mod_two_pow]; congr 1 <;> omega
  have h2 : ((256 * h + l) &&& (256 * H + L)) / 2 ^ 8 = h &&& H := by
    rw [Nat.and_div_two_pow]; congr 1 <;> omega
  have := Nat.div_add_mod ((256 * h + l) &&& (256 * H + L)) (2 ^ 8)
  rw [h1, h2] at this
  omega
theorem and_bytes (a b c m : Nat) (ha : a < 256) (hb : b < 256) (M : Nat) (hm : m < 256) (hM : M = 256 * (256 * (256 * (M / 16777216) + m) + m) + m) (hc : c < 256) :
    (a + 256 * b + 65536 * c) &&& M = (a &&& m) + 256 * (b &&& m) + 65536 * (c &&& m) := by
  rw [hM, show a + 256 * b + 65536 * c = 256 * (256 * c + b) + a from by omega, and_256 _ _ _ _ ha hm, and_256 _ _ _ _ hb hm,
    show c = 256 * 0 + c from by omega, and_256 _ _ _ _ hc hm]
  simp; omega
def t1 (a : Nat) : Nat := (a / 2 &&& 0x55) + (a &&& 0x55)
def t2 (a : Nat) : Nat := (a / 4 &&& 0x33) + (a &&& 0x33)
def t3 (a : Nat) : Nat := (a / 16 + a) &&& 15
set_option maxRecDepth 100000 in
theorem byte1 : ∀ a < 256, (a / 2 &&& 0x55) = ((a / 2 + 128) &&& 0x55) ∧ t1 a < 171 := by decide
set_option maxRecDepth 100000 in
theorem byte2 : ∀ a < 171, ∀ r < 4, (a / 4 &&& 0x33) = ((a / 4 + 64 * r) &&& 0x33) ∧ t2 a < 103 ∧ t2 a % 16 < 7 := by decide

set_option maxRecDepth 100000 in
theorem byte3 : ∀ a < 103, ∀ r < 7, (a / 16 + 16 * r + a) &&& 15 = (t3 a) ∧ t3 a < 16 := by decide
set_option maxRecDepth 100000 in
theorem byte_pc : ∀ a < 256, t3 (t2 (t1 a)) < 9 := by decide
def s1 (x : Int) : Int := IntKind.u64.wrap (bits .and .u64 (x / 2) 6148914691236517205 + bits .and .u64 x 6148914691236517205)
def s2 (x : Int) : Int := IntKind.u64.wrap (bits .and .u64 (x / 4) 3689348814741910323 + bits .and .u64 x 3689348814741910323)
def s3 (x : Int) : Int := bits .and .u64 (IntKind.u64.wrap (x / 16 + x)) 1085102592571150095
def s4 (x : Int) : Int := IntKind.u64.wrap (x + x / 256)
def s5 (x : Int) : Int := IntKind.u64.wrap (x + x / 65536)
def s6 (x : Int) : Int := IntKind.u64.wrap (x + x / 4294967296)
theorem s1_bytes (a b c : Nat) (ha : a < 256) (hb : b < 256) (hc : c < 256) : s1 ((a + 256 * b + 65536 * c : Nat) : Int) = ((t1 a + 256 * t1 b + 65536 * t1 c : Nat) : Int) := by
  have e1 : ((a + 256 * b + 65536 * c : Nat) : Int) / 2 = (((a / 2 + 128 * (b % 2)) + 256 * (b / 2 + 128 * (c % 2)) + 65536 * (c / 2) : Nat) : Int) := by omega
  have hb2 : b % 2 = 0 ∨ b % 2 = 1 := by omega
  have hc2 : c % 2 = 0 ∨ c % 2 = 1 := by omega
  have ka := byte1 a ha
  have kb := byte1 b hb
  have kc := byte1 c hc
  unfold s1
  rw [e1, show (6148914691236517205 : Int) = ((6148914691236517205 : Nat) : Int) from rfl, and_u64 _ _ (by omega) (by decide), and_u64 _ _ (by omega) (by decide),
    and_bytes _ _ _ 0x55 (by omega) (by omega) _ (by decide) (by decide) (by omega), and_bytes _ _ _ 0x55 ha hb _ (by decide) (by decide) hc]
  have ea : (a / 2 + 128 * (b % 2)) &&& 0x55 = a / 2 &&& 0x55 := by
    rcases hb2 with h | h <;> rw [h]
    · rfl
    · exact ka.1.symm
  have eb : (b / 2 + 128 * (c % 2)) &&& 0x55 = b / 2 &&& 0x55 := by
    rcases hc2 with h | h <;> rw [h]
    · rfl
    · exact kb.1.symm
  rw [ea, eb]
  have ja := ka.2; have jb := kb.2; have jc := kc.2
  unfold t1 at *
  rw [show (((a / 2 &&& 85) + 256 * (b / 2 &&& 85) + 65536 * (c / 2 &&& 85) : Nat) : Int) + (((a &&& 85) + 256 * (b &&& 85) + 65536 * (c &&& 85) : Nat) : Int) = ((((a / 2 &&& 85) + (a &&& 85)) + 256 * ((b / 2 &&& 85) + (b &&& 85)) + 65536 * ((c / 2 &&& 85) + (c &&& 85)) : Nat) : Int) from by omega]
  exact wrap_u64 _ (by omega)
theorem s2_bytes (a b c : Nat) (ha : a < 171) (hb : b < 171) (hc : c < 171) : s2 ((a + 256 * b + 65536 * c : Nat) : Int) = ((t2 a + 256 * t2 b + 65536 * t2 c : Nat) : Int) := by
  have e1 : ((a + 256 * b + 65536 * c : Nat) : Int) / 4 = (((a / 4 + 64 * (b % 4)) + 256 * (b / 4 + 64 * (c % 4)) + 65536 * (c / 4) : Nat) : Int) := by omega
  have ka := byte2 a ha (b % 4) (by omega)
  have kb := byte2 b hb (c % 4) (by omega)
  have kc := byte2 c hc 0 (by omega)
  unfold s2
  rw [e1, show (3689348814741910323 : Int) = ((3689348814741910323 : Nat) : Int) from rfl, and_u64 _ _ (by omega) (by decide), and_u64 _ _ (by omega) (by decide),
    and_bytes _ _ _ 0x33 (by omega) (by omega) _ (by decide) (by decide) (by omega), and_bytes _ _ _ 0x33 (by omega) (by omega) _ (by decide) (by decide) (by omega), ← ka.1, ← kb.1]
  have ja := ka.2.1; have jb := kb.2.1; have jc := kc.2.1
  clear ka kb kc e1
  unfold t2 at *
  rw [show (((a / 4 &&& 51) + 256 * (b / 4 &&& 51) + 65536 * (c / 4 &&& 51) : Nat) : Int) + (((a &&& 51) + 256 * (b &&& 51) + 65536 * (c &&& 51) : Nat) : Int) = ((((a / 4 &&& 51) + (a &&& 51)) + 256 * ((b / 4 &&& 51) + (b &&& 51)) + 65536 * ((c / 4 &&& 51) + (c &&& 51)) : Nat) : Int) from by omega]
  exact wrap_u64 _ (by omega)
theorem s3_bytes (a b c : Nat) (ha : a < 103) (hb : b < 103) (hc : c < 103) (hb6 : b % 16 < 7) (hc6 : c % 16 < 7) : s3 ((a + 256 * b + 65536 * c : Nat) : Int) = ((t3 a + 256 * t3 b + 65536 * t3 c : Nat) : Int) := by
  have e1 : ((a + 256 * b + 65536 * c : Nat) : Int) / 16 + ((a + 256 * b + 65536 * c : Nat) : Int) = (((a / 16 + 16 * (b % 16) + a) + 256 * (b / 16 + 16 * (c % 16) + b) + 65536 * (c / 16 + c) : Nat) : Int) := by omega
  have ka := byte3 a ha (b % 16) hb6
  have kb := byte3 b hb (c % 16) hc6
  have kc := byte3 c hc 0 (by omega)
  unfold s3
  rw [e1, wrap_u64 _ (by omega), show (1085102592571150095 : Int) = ((1085102592571150095 : Nat) : Int) from rfl, and_u64 _ _ (by omega) (by decide),
    and_bytes _ _ _ 0x0f (by omega) (by omega) _ (by decide) (by decide) (by omega), ka.1, kb.1, show c / 16 + c = c / 16 + 16 * 0 + c from by omega, kc.1]
def pcS (x : Int) : Int := bits .and .i64 (wrap64 (s6 (s5 (s4 (s3 (s2 (s1 x))))))) 127
def pc3 (n : Nat) : Nat := t3 (t2 (t1 (n % 256))) + t3 (t2 (t1 (n / 256 % 256))) + t3 (t2 (t1 (n / 65536)))
theorem pcS_eq (n : Nat) (h : n < 16777216) : pcS (n : Int) = (pc3 n : Nat) := by
  unfold pcS pc3
  obtain ⟨a, ha⟩ : ∃ a, a = n % 256 := ⟨_, rfl⟩
  obtain ⟨b, hb⟩ : ∃ b, b = n / 256 % 256 := ⟨_, rfl⟩
  obtain ⟨c, hc⟩ : ∃ c, c = n / 65536 := ⟨_, rfl⟩
  rw [← ha, ← hb, ← hc]
  have e : n = a + 256 * b + 65536 * c := by omega
  have la : a < 256 := by omega
  have lb : b < 256 := by omega
  have lc : c < 256 := by omega
  clear ha hb hc h
  subst e
  have a1 := (byte1 a la).2; have b1 := (byte1 b lb).2; have c1 := (byte1 c lc).2
  have a2 := (byte2 _ a1 0 (by omega)).2; have b2 := (byte2 _ b1 0 (by omega)).2; have c2 := (byte2 _ c1 0 (by omega)).2
  have a3 := byte_pc a la; have b3 := byte_pc b lb; have c3 := byte_pc c lc
  rw [s1_bytes a b c la lb lc, s2_bytes _ _ _ a1 b1 c1, s3_bytes _ _ _ a2.1 b2.1 c2.1 b2.2 c2.2]
  generalize t3 (t2 (t1 a)) = x at *
  generalize t3 (t2 (t1 b)) = y at *
  generalize t3 (t2 (t1 c)) = z at *
  clear a1 b1 c1 a2 b2 c2 la lb lc
  have f4 : s4 ((x + 256 * y + 65536 * z : Nat) : Int) = ((x + y + 256 * (y + z) + 65536 * z : Nat) : Int) := by
    unfold s4
    rw [show ((x + 256 * y + 65536 * z : Nat) : Int) + ((x + 256 * y + 65536 * z : Nat) : Int) / 256 = ((x + y + 256 * (y + z) + 65536 * z : Nat) : Int) from by omega]
    exact wrap_u64 _ (by omega)
  have f5 : s5 ((x + y + 256 * (y + z) + 65536 * z : Nat) : Int) = ((x + y + z + 256 * (y + z) + 65536 * z : Nat) : Int) := by
    unfold s5
    rw [show ((x + y + 256 * (y + z) + 65536 * z : Nat) : Int) + ((x + y + 256 * (y + z) + 65536 * z : Nat) : Int) / 65536 = ((x + y + z + 256 * (y + z) + 65536 * z : Nat) : Int) from by omega]
    exact wrap_u64 _ (by omega)
  have f6 : s6 ((x + y + z + 256 * (y + z) + 65536 * z : Nat) : Int) = ((x + y + z + 256 * (y + z) + 65536 * z : Nat) : Int) := by
    unfold s6
    rw [show ((x + y + z + 256 * (y + z) + 65536 * z : Nat) : Int) + ((x + y + z + 256 * (y + z) + 65536 * z : Nat) : Int) / 4294967296 = ((x + y + z + 256 * (y + z) + 65536 * z : Nat) : Int) from by omega]
    exact wrap_u64 _ (by omega)
  rw [f4, f5, f6, show wrap64 ((x + y + z + 256 * (y + z) + 65536 * z : Nat) : Int) = ((x + y + z + 256 * (y + z) + 65536 * z : Nat) : Int) from by unfold wrap64; omega, show (127 : Int) = ((127 : Nat) : Int) from rfl, and_i64 _ _ (by omega) (by decide)]
  rw [show (127 : Nat) = 2 ^ 7 - 1 from rfl, Nat.and_two_pow_sub_one_eq_mod]
  omega
theorem pc_zero : pc 0 = 0 := by rw [pc, if_pos rfl]
theorem pc_one (m : Nat) : pc m = m % 2 + pc (m / 2) := by
  by_cases h0 : m = 0
  · subst h0; rw [pc_zero]
  · rw [pc, if_neg h0]
theorem pc_byte_step (n h : Nat) (hn : n < 256) : pc (256 * h + n) = pc n + pc h := by
  have key : ∀ k n, n < 2 ^ k → ∀ h, pc (2 ^ k * h + n) = pc n + pc h := by
    intro k
    induction k with
    | zero => intro n hn h; have : n = 0 := by simpa using hn
              subst this; rw [pc_zero]; simp
    | succ k ih =>
      intro n hn h
      rw [pc_one, pc_one n]
      have e1 : (2 ^ (k + 1) * h + n) % 2 = n % 2 := by rw [Nat.pow_succ, Nat.mul_comm (2 ^ k) 2, Nat.mul_assoc]; omega
      have e2 : (2 ^ (k + 1) * h + n) / 2 = 2 ^ k * h + n / 2 := by rw [Nat.pow_succ, Nat.mul_comm (2 ^ k) 2, Nat.mul_assoc]; omega
      rw [e1, e2, ih (n / 2) (by rw [Nat.pow_succ] at hn; omega) h]
      omega
  exact key 8 n hn h
theorem pc_256 : ∀ a < 256, t3 (t2 (t1 a)) = pc a := by
  have e : ∀ a, a < 256 → pc a = a % 2 + (a / 2 % 2 + (a / 4 % 2 + (a / 8 % 2 + (a / 16 % 2 + (a / 32 % 2 + (a / 64 % 2 + a / 128 % 2)))))) := by
    intro a ha
    rw [pc_one a, pc_one (a / 2), pc_one (a / 2 / 2), pc_one (a / 2 / 2 / 2), pc_one (a / 2 / 2 / 2 / 2), pc_one (a / 2 / 2 / 2 / 2 / 2), pc_one (a / 2 / 2 / 2 / 2 / 2 / 2), pc_one (a / 2 / 2 / 2 / 2 / 2 / 2 / 2)]
    rw [show a / 2 / 2 / 2 / 2 / 2 / 2 / 2 / 2 = 0 from by omega, pc_zero]
    omega
  have d : ∀ a < 256, t3 (t2 (t1 a)) = a % 2 + (a / 2 % 2 + (a / 4 % 2 + (a / 8 % 2 + (a / 16 % 2 + (a / 32 % 2 + (a / 64 % 2 + a / 128 % 2)))))) := by
    set_option maxRecDepth 100000 in decide
  intro a ha
  rw [d a ha, e a ha]
theorem pc3_eq (n : Nat) (h : n < 16777216) : pc3 n = pc n := by
  unfold pc3
  rw [pc_256 _ (by omega), pc_256 _ (by omega), pc_256 _ (by omega)]
  have e1 := pc_byte_step (n % 256) (n / 256) (by omega)
  have e2 := pc_byte_step (n / 256 % 256) (n / 65536) (by omega)
  rw [show 256 * (n / 256) + n % 256 = n from by omega] at e1
  rw [show 256 * (n / 65536) + n / 256 % 256 = n / 256 from by omega] at e2
  omega
theorem pcS_pc (n : Nat) (h : n < 16777216) : pcS (n : Int) = (pc n : Nat) := by rw [pcS_eq n h, pc3_eq n h]
end Go.Proofs.YtpaedhlacbpmpaaGreatDoor

/-
  Walks: math/bits.OnesCount, cmp.Compare[int], sets.Count, Compare.
-/
namespace Go.Proofs.YtpaedhlacbpmpaaGreatDoor
open Go.RowKit

theorem isNaN_any (x : Int) (w : World) : Calls Tryz.prog 130 #[.int .i64 x] w fun e w' => e = .returned (.bool false) ∧ w = w' := by
  go_enter Tryz.func130, Tryz.ntmps130
  go_wp2
  go_ret
  exact ⟨by simp, rfl⟩
def cmpI (x y : Int) : Int := if x < y then -1 else if y < x then 1 else 0
theorem cmp_any (x y : Int) (w : World) : Calls Tryz.prog 103 #[.int .i64 x, .int .i64 y] w fun e w' => e = .returned (.int .i64 (cmpI x y)) ∧ w = w' := by
  unfold cmpI
  by_cases h1 : x < y
  · rw [if_pos h1]
    go_enter Tryz.func103, Tryz.ntmps103
    go_wp2_with (go_at_call 130; refine (isNaN_any _ _).mono ?_; rintro e w' ⟨rfl, rfl⟩)
    go_ret
    exact ⟨rfl, rfl⟩
  · rw [if_neg h1]
    by_cases h2 : y < x
    · rw [if_pos h2]
      go_enter Tryz.func103, Tryz.ntmps103
      go_wp2_with (go_at_call 130; refine (isNaN_any _ _).mono ?_; rintro e w' ⟨rfl, rfl⟩)
      go_ret
      exact ⟨rfl, rfl⟩
    · rw [if_neg h2]
      go_enter Tryz.func103, Tryz.ntmps103
      go_wp2_with (go_at_call 130; refine (isNaN_any _ _).mono ?_; rintro e w' ⟨rfl, rfl⟩)
      go_ret
      exact ⟨rfl, rfl⟩
theorem ones64_any (x : Int) (w : World) : Calls Tryz.prog 157 #[.int .u64 x] w fun e w' => e = .returned (.int .i64 (pcS x)) ∧ w = w' := by
  go_enter Tryz.func157, Tryz.ntmps157
  go_wp2
  go_ret
  exact ⟨rfl, rfl⟩
theorem ones_any (x : Int) (w : World) : Calls Tryz.prog 131 #[.int .u64 x] w fun e w' => e = .returned (.int .i64 (pcS x)) ∧ w = w' := by
  go_enter Tryz.func131, Tryz.ntmps131
  go_wp2_with (go_at_call 157; refine (ones64_any _ _).mono ?_; rintro e w' ⟨rfl, rfl⟩)
  go_ret
  exact ⟨rfl, rfl⟩
/-- A set of events: a mask. -/
def Mk (n : Nat) : Prop := n < 16777216
theorem cut_mk {n : Nat} (h : Mk n) : bits .and .i64 (n : Int) 16777215 = n := by
  unfold Mk at h
  rw [show (16777215 : Int) = ((16777215 : Nat) : Int) from rfl, and_i64 _ _ (by omega) (by decide), show (16777215 : Nat) = 2 ^ 24 - 1 from rfl, Nat.and_two_pow_sub_one_eq_mod]
  omega
theorem cutk_any {n : Nat} (h : Mk n) (w : World) : Calls Tryz.prog 105 #[.int .i64 n] w fun e w' => e = .returned (.int .i64 n) ∧ w = w' := by
  have := cut_any n w
  rwa [cut_mk h] at this
theorem wrap_mk {n : Nat} (h : Mk n) : IntKind.u64.wrap (n : Int) = n := wrap_u64 n (by unfold Mk at h; omega)
theorem count_any {n : Nat} (h : Mk n) (w : World) : Calls Tryz.prog 104 #[.int .i64 n] w fun e w' => e = .returned (.int .i64 (pc n)) ∧ w = w' := by
  have hw := wrap_mk h
  have hp : pcS (n : Int) = (pc n : Nat) := pcS_pc n h
  have H := Lib.hid h
  clear h
  go_enter Tryz.func104, Tryz.ntmps104
  go_wp2_with (first
    | (go_at_call 105; refine (cutk_any H.out _).mono ?_; rintro e w' ⟨rfl, rfl⟩)
    | (go_at_call 131; refine (ones_any _ _).mono ?_; rintro e w' ⟨rfl, rfl⟩))
  go_ret
  exact ⟨rfl, rfl⟩
/-- The order of sets: by size, then as numbers. -/
def cmpK (a b : Nat) : Int := if pc a < pc b then -1 else if pc b < pc a then 1 else if a < b then -1 else if b < a then 1 else 0
theorem compare_any {a b : Nat} (ha : Mk a) (hb : Mk b) (w : World) : Calls Tryz.prog 64 #[.int .i64 a, .int .i64 b] w fun e w' => e = .returned (.int .i64 (cmpK a b)) ∧ w = w' := by
  have HA := Lib.hid ha
  have HB := Lib.hid hb
  clear ha hb
  obtain ⟨x, hx⟩ : ∃ x, x = cmpI (pc a) (pc b) := ⟨_, rfl⟩
  have HX := Lib.hid hx
  clear hx
  have hr : cmpK a b = if x == 0 then cmpI a b else x := by
    have := HX.out
    unfold cmpK
    unfold cmpI at this ⊢
    split at this
    · rw [if_pos (by omega)]; simp [this]
    · split at this
      · rw [if_neg (by omega), if_pos (by omega)]; simp [this]
      · rw [if_neg (by omega), if_neg (by omega)]; simp [this]
  rw [hr]
  clear hr
  cases hx0 : x == 0
  all_goals
    have hx1 : (x != 0) = !(x == 0) := rfl
    rw [hx0] at hx1
    simp only [Bool.not_true, Bool.not_false] at hx1
    go_enter Tryz.func64, Tryz.ntmps64
    go_wp2_with (first
      | (go_at_call 104; refine (count_any (by first | exact HA.out | exact HB.out) _).mono ?_; rintro e w' ⟨rfl, rfl⟩)
      | (go_at_call 103; refine (cmp_any _ _ _).mono ?_; rintro e w' ⟨rfl, rfl⟩; rw [← HX.out])
      | (go_at_call 103; refine (cmp_any _ _ _).mono ?_; rintro e w' ⟨rfl, rfl⟩)
      | (go_at_call 105; refine (cutk_any (by first | exact HA.out | exact HB.out) _).mono ?_; rintro e w' ⟨rfl, rfl⟩))
    go_ret
    exact ⟨rfl, rfl⟩
end Go.Proofs.YtpaedhlacbpmpaaGreatDoor

/-
  Plain lists: the one strictly ascending list of a set; slices.Compact of a sorted list; the order of sets by size, then as numbers.
-/
namespace Go.Proofs.YtpaedhlacbpmpaaGreatDoor
open Go.Lib Go.Sort Go.RowKit

/-- The order of sets. -/
def ltK (a b : Nat) : Prop := pc a < pc b ∨ pc a = pc b ∧ a < b
instance : DecidableRel ltK := fun a b => by unfold ltK; exact inferInstance
theorem ltK_irr (a : Nat) : ¬ ltK a a := by unfold ltK; omega
theorem ltK_tr (a b c : Nat) (h1 : ltK a b) (h2 : ltK b c) : ltK a c := by unfold ltK at *; omega
theorem ltK_total (a b : Nat) : ltK a b ∨ a = b ∨ ltK b a := by unfold ltK; omega
/-- x put into an ascending list, once. -/
def insK (x : Nat) : List Nat → List Nat
  | [] => [x]
  | y :: l => if ltK x y then x :: y :: l else if x = y then y :: l else y :: insK x l
/-- The sets of a list, sorted, each once. -/
def sortK : List Nat → List Nat
  | [] => []
  | x :: l => insK x (sortK l)
end Go.Proofs.YtpaedhlacbpmpaaGreatDoor

/-
  Walks: slices.Clone, SortFunc, Compact in the words of B0; family.sorted.
-/
namespace Go.Proofs.YtpaedhlacbpmpaaGreatDoor
open Go.RowKit Go.Lib Go.Sort Go.Shelf

/-- Numbers as ints. -/
abbrev ofN (ns : List Nat) : List Int := ns.map fun n : Nat => (n : Int)

/-- Masks as a type of their own. -/
abbrev MkT := Fin 16777216
def encM (n : MkT) : Value := .int .i64 (n.val : Int)
def cfM (a b : MkT) : Int := cmpK a.val b.val
theorem heap_lt {w : World} {g : Nat} {o : Obj} (h : w.heap[g]? = some o) : g < w.heap.size := by
  rcases Nat.lt_or_ge g w.heap.size with h1 | h1
  · exact h1
  · simp [Array.getElem?_eq_none h1] at h
theorem heap_putRow {α : Type} [Inhabited α] (enc : α → Value) (w : World) (q g off : Nat) (d : Array α) {cur : Array Value} {e : TypeId} {fr : Nat × Nat} (h : w.heap[g]? = some (.cells cur e fr)) :
    (putRow enc (Sort.ahead w q) g off d).heap[g]? = some (.cells (putCells enc off d cur) e fr) := by
  show (w.heap.modify g (onCells (putCells enc off d)))[g]? = _
  simp [Array.getElem?_modify, h, onCells]
theorem heap_putRow_ne {α : Type} [Inhabited α] (enc : α → Value) (w : World) (q g off k : Nat) (d : Array α) (hk : k ≠ g) : (putRow enc (Sort.ahead w q) g off d).heap[k]? = w.heap[k]? := by
  show (w.heap.modify g (onCells (putCells enc off d)))[k]? = _
  simp [Array.getElem?_modify, Ne.symm hk]
theorem putCells_take {α : Type} [Inhabited α] (enc : α → Value) (d : Array α) (cur : Array Value) (n : Nat) (hd : d.size = n) (hc : n ≤ cur.size) :
    (putCells enc 0 d cur).size = cur.size ∧ (putCells enc 0 d cur).toList.take n = d.toList.map enc := by
  refine ⟨by simp [putCells], ?_⟩
  apply List.ext_getElem?
  intro i
  simp only [putCells, Array.toList_mapIdx, List.getElem?_take, List.getElem?_mapIdx, List.getElem?_map]
  by_cases h : i < n
  · have h1 : i < cur.toList.length := by simpa using (by omega : i < cur.size)
    have h2 : i < d.size := by omega
    rw [if_pos h, List.getElem?_eq_getElem h1]
    simp [h2, getElem!_pos, Nat.zero_add]
  · rw [if_neg h, List.getElem?_eq_none (by simp; omega)]; rfl

end Go.Proofs.YtpaedhlacbpmpaaGreatDoor

/-
  Walks: slices.Compact of a sorted row; family.sorted, minimal on masks.
-/
namespace Go.Proofs.YtpaedhlacbpmpaaGreatDoor
open Go.RowKit Go.Lib Go.Sort Go.Shelf

/-- a is a part of b. -/
def subN (a b : Nat) : Bool := sdiff a b == 0
theorem subB_subN {a b : Nat} (ha : Mk a) (hb : Mk b) : subB (a : Int) (b : Int) = subN a b := by
  unfold subB subN
  rw [cut_mk ha, andNot_i64 a b (by unfold Mk at ha; omega) (by unfold Mk at hb; omega)]
  rw [Bool.eq_iff_iff]; simp
def keepN (out : List Nat) (s : Nat) : List Nat := if out.any (fun t => subN t s) then out else out ++ [s]
def minN (l : List Nat) : List Nat := l.foldl keepN []
/-- The minimal sets of a list, sorted. -/
def minK (l : List Nat) : List Nat := minN (sortK l)
end Go.Proofs.YtpaedhlacbpmpaaGreatDoor

/-
  Walks: family.lists; slices.Grow of nil, Concat; family.sized, Plus.
-/
namespace Go.Proofs.YtpaedhlacbpmpaaGreatDoor
open Go.RowKit

def listsC (xss : List (List Int)) : Nat := if xss.all (fun xs => decide (xs.length ≤ 1024)) then 0 else 4
end Go.Proofs.YtpaedhlacbpmpaaGreatDoor

/-
  Walks: family.sized, Plus, Product.
-/
namespace Go.Proofs.YtpaedhlacbpmpaaGreatDoor
open Go.RowKit

/-- Sets in memory: masks. -/
def SetsAt (w : World) (v : Value) (ns : List Nat) : Prop := IntsAt w v (ofN ns) ∧ ∀ n ∈ ns, Mk n
def OwnSets (w : World) (B : Nat) (v : Value) (ns : List Nat) : Prop := OwnInts w B v (ofN ns) ∧ ∀ n ∈ ns, Mk n
/-- A list of sets, or the error that it is too large. -/
def LRes (w' : World) (B : Nat) (e : Ending) (r : Option (List Nat)) : Prop :=
  match r with
  | some l => ∃ v, e = .returned (.tuple #[v, .nilIface]) ∧ OwnSets w' B v l
  | none => e = .returned (.tuple #[.slice none 0 0, errV 4])
def plusK (a b : List Nat) : Option (List Nat) := if a.length ≤ 1024 ∧ b.length ≤ 1024 then (if (minK (a ++ b)).length ≤ 1024 then some (minK (a ++ b)) else none) else none

end Go.Proofs.YtpaedhlacbpmpaaGreatDoor

/-
  A map[int]bool of the call's own, by what it answers; family.Product.
-/
namespace Go.Proofs.YtpaedhlacbpmpaaGreatDoor
open Go.RowKit Go.Maps

/-- Block b is a map from ints to bools with at most n entries that answers mem. -/
def BoolMap (w : World) (b n : Nat) (mem : Int → Bool) : Prop :=
  ∃ D : DataW Unit, w.ownsMap Tryz.prog 3 (plainElem Tryz.prog 4) b n D ∧ IsMap D ∧ ∀ x : Int, D.atKey (.int .i64 x) (.lit (.bool false)) = .lit (.bool (mem x))
variable {ops : Array Oper} {rest : List Oper} {o : Oper} {a : Act} {Q : Exit → Act → World → Prop} {w : World}
/-- All unions, each once, in the order of their first appearance. -/
def addU (out : List Nat) (u : Nat) : List Nat := if u ∈ out then out else out ++ [u]
def rowU (x : Nat) (ys : List Nat) (out : List Nat) : List Nat := ys.foldl (fun out y => addU out (x ||| y)) out
def allU (xs ys : List Nat) : List Nat := xs.foldl (fun out x => rowU x ys out) []
end Go.Proofs.YtpaedhlacbpmpaaGreatDoor

/-
  Walks: family.Product.
-/
namespace Go.Proofs.YtpaedhlacbpmpaaGreatDoor
open Go.RowKit Go.Maps

theorem kept_ne {w0 w w' : World} {b : Nat} (h : Kept w0 w) (hg : w.grownBy w' (some b)) (hb : w0.heap.size ≤ b) : Kept w0 w' :=
  h.app ⟨hg.os, hg.tape, hg.output, hg.size, fun k hk => hg.block k (Nat.lt_of_lt_of_le hk h.size) (by intro e; cases e; omega)⟩

/-- What the two loops keep. -/
def ProdInv (wm wr : World) (v : Value) (acc : List Nat) : Prop :=
  OwnInts wr wm.heap.size v (ofN acc) ∧ BoolMap wr wm.heap.size acc.length (fun z => decide (z ∈ ofN acc)) ∧ Kept wm wr
def productK (a b : List Nat) : Option (List Nat) := if a.length ≤ 1024 ∧ b.length ≤ 1024 then (if (minK (allU (minK a) (minK b))).length ≤ 1024 then some (minK (allU (minK a) (minK b))) else none) else none
end Go.Proofs.YtpaedhlacbpmpaaGreatDoor

/-
  Rows of the call's own that are stored into: laws.
-/
namespace Go.Proofs.YtpaedhlacbpmpaaGreatDoor
open Go.RowKit

/-- Block g is a row whose first cells are xs; none is frozen. -/
def RowAt (w : World) (g : Nat) (e : TypeId) (xs : List Value) : Prop :=
  ∃ cur, w.heap[g]? = some (.cells cur e (0, 0)) ∧ xs.length ≤ cur.size ∧ cur.toList.take xs.length = xs
theorem RowAt.made (w : World) (cs : Array Value) (e : TypeId) : RowAt (w.alloc (.cells cs e)) w.heap.size e cs.toList :=
  ⟨cs, heap_alloc_new w _, by simp, List.take_of_length_le (by simp)⟩
theorem RowAt.lt {w : World} {g : Nat} {e : TypeId} {xs : List Value} (h : RowAt w g e xs) : g < w.heap.size := by
  obtain ⟨cur, h1, _⟩ := h
  rcases Nat.lt_or_ge g w.heap.size with h2 | h2
  · exact h2
  · simp [Array.getElem?_eq_none h2] at h1
theorem RowAt.kept {w w' : World} {g : Nat} {e : TypeId} {xs : List Value} (h : RowAt w g e xs) (hk : Kept w w') : RowAt w' g e xs := by
  have hl := h.lt
  obtain ⟨cur, h1, h2⟩ := h
  exact ⟨cur, (hk.block g hl).trans h1, h2⟩
theorem RowAt.same {w w' : World} {g : Nat} {e : TypeId} {xs : List Value} (h : RowAt w g e xs) (hk : w'.heap[g]? = w.heap[g]?) : RowAt w' g e xs := by
  obtain ⟨cur, h1, h2⟩ := h
  exact ⟨cur, hk.trans h1, h2⟩
theorem RowAt.cell {w : World} {g : Nat} {e : TypeId} {xs : List Value} (h : RowAt w g e xs) {i : Nat} (hi : i < xs.length) : w.cell? ⟨g, i, none⟩ = some xs[i] := by
  obtain ⟨cur, h1, h2, h3⟩ := h
  have e1 : (cur.toList.take xs.length)[i]? = xs[i]? := by rw [h3]
  rw [List.getElem?_take_of_lt hi] at e1
  simp only [World.cell?, h1]
  simpa [hi] using e1
theorem RowAt.free {w : World} {g : Nat} {e : TypeId} {xs : List Value} (h : RowAt w g e xs) (i : Nat) : w.frozen? ⟨g, i, none⟩ = false := by
  obtain ⟨cur, h1, _⟩ := h
  simp [World.frozen?, h1]
theorem RowAt.store {w : World} {g : Nat} {e : TypeId} {xs : List Value} (h : RowAt w g e xs) (i : Nat) (u : Value) : RowAt (w.setCell ⟨g, i, none⟩ u) g e (xs.set i u) := by
  obtain ⟨cur, h1, h2, h3⟩ := h
  refine ⟨cur.setIfInBounds i u, by simp [World.setCell, Array.getElem?_modify, h1], by simpa using h2, ?_⟩
  rw [List.length_set, Array.toList_setIfInBounds, List.take_set, h3]
theorem Kept.store {w0 w : World} (h : Kept w0 w) {g : Nat} (hg : w0.heap.size ≤ g) (i : Nat) (u : Value) : Kept w0 (w.setCell ⟨g, i, none⟩ u) := Below.setCell h hg u
theorem made_one (z : Value) (hz : z.cells = #[z]) (n : Nat) : (madeCells z.cells (n * 1)).toList = List.replicate n z := by
  rw [hz]
  unfold madeCells
  apply List.ext_getElem
  · simp
  · intro i h1 h2
    simp [Nat.mod_one]
theorem info_bool : (Tryz.prog.info? 4).map (fun i => (i.zero, i.size, i.bytes)) = some (some (.bool false), 1, 1) := by kernel_rfl
variable {ops : Array Oper} {rest : List Oper} {o : Oper} {a : Act} {Q : Exit → Act → World → Prop} {w : World}
theorem make_one (t e : TypeId) (z : Value) (bytes : Nat) (hi : (Tryz.prog.info? e).map (fun i => (i.zero, i.size, i.bytes)) = some (some z, 1, bytes)) (ht : Tryz.prog.underlying t = some (.slice e)) (hz : z.cells = #[z]) (hg : o.guard = none) (l c : Operand)
    (hop : o.op = Op.makeSlice t l c) (n : Nat) (hl : a.eval l = .int .i64 n) (hc : a.eval c = .int .i64 n) (hb : bytes * n ≤ 281474976710656) (hm : n ≤ maxLen)
    (hK : ∀ w', RowAt w' w.heap.size e (List.replicate n z) → Kept w w' → wpList Tryz.prog ops Q rest (a.put o.dst (.slice (some ⟨w.heap.size, 0, none⟩) n n)) w') : wpList Tryz.prog ops Q (o :: rest) a w := by
  obtain ⟨i0, hi0, hz0, hz1, hz2⟩ := info_parts hi
  refine wpList_make_full w hg l c t hop w.heap.size e i0 z 1 ht hi0 hz0 hz1 .i64 .i64 _ _ n hl hc rfl rfl (by rw [hz2]; exact hb) hm (Nat.le_refl _) ?_
  intro w' h1 h2
  rw [made_one z hz n] at h1
  refine hK w' ?_ ⟨h2.os, h2.tape, h2.output, h2.size, fun k hk => h2.block k hk (by simp)⟩
  obtain ⟨h3, h4⟩ := h1
  rcases h4 with ⟨h4, _⟩ | ⟨g, cap, cur, h4, h5, h6, h7, h8, h9, h10⟩
  · cases h4
  · cases h4
    exact ⟨cur, h6, by simp; omega, by simpa using h10⟩
end Go.Proofs.YtpaedhlacbpmpaaGreatDoor

/-
  Plain: formulas, and the first error of a formula.
-/
namespace Go.Proofs.YtpaedhlacbpmpaaGreatDoor

structure Nd where
  kind : Int
  k : Int
  args : List Int
structure Fm where
  vars : Int
  nodes : List Nd
  top : Int
def argsOk (kind : Int) (n : Nat) : Bool := if kind = 0 then decide (n = 0) else if kind = 1 then decide (n = 1) else decide (1 ≤ n ∧ n ≤ 16)
def chkK (kind k : Int) (n : Nat) : Nat := if kind = 0 then (if k = 0 ∨ k = 1 then 0 else 3) else if kind = 4 then (if 1 ≤ k ∧ k ≤ n then 0 else 3) else if k = 0 then 0 else 2
def chkNd (b : Int) (x : Nd) : Nat :=
  if x.kind < 0 ∨ 5 < x.kind then 7 else if argsOk x.kind x.args.length = false then 11
  else if x.args.all (fun a => decide (0 ≤ a ∧ a < b)) = false then 10 else chkK x.kind x.k x.args.length
def chkFrom (b : Int) : List Nd → Nat
  | [] => 0
  | x :: l => if chkNd b x = 0 then chkFrom (b + 1) l else chkNd b x
/-- arg is an event or a node. -/
def okArg (f : Fm) (arg : Int) : Bool := decide (0 ≤ f.vars ∧ 0 ≤ arg ∧ (arg < f.vars ∨ arg - f.vars < f.nodes.length))
def chkF (f : Fm) : Nat :=
  if f.vars < 0 ∨ 24 < f.vars then 3 else if 128 < f.nodes.length then 4 else if chkFrom f.vars f.nodes = 0 then (if okArg f f.top then 0 else 10) else chkFrom f.vars f.nodes
end Go.Proofs.YtpaedhlacbpmpaaGreatDoor

/-
  Formulas in memory. Walks: formula.arguments, checkNode.
-/
namespace Go.Proofs.YtpaedhlacbpmpaaGreatDoor
open Go.RowKit

def NodeAt (w : World) (b o : Nat) (x : Nd) : Prop :=
  ∃ u, w.cell? ⟨b, o, none⟩ = some (.int .i64 x.kind) ∧ w.cell? ⟨b, o + 1, none⟩ = some (.int .i64 x.k) ∧ w.cell? ⟨b, o + 2, none⟩ = some u ∧ IntsAt w u x.args
/-- A slice of nodes that can be read. -/
def NodesAt (w : World) (v : Value) (xs : List Nd) : Prop :=
  ∃ (a : Option Addr) (c : Nat), v = .slice a xs.length c ∧ (xs.length ≤ c ∧ (a = none → c = 0)) ∧ xs.length ≤ 140737488355328 ∧
    ∀ i (h : i < xs.length), ∃ b o, a = some ⟨b, o, none⟩ ∧ NodeAt w b (o + i * 3) xs[i]
theorem node_range {w : World} {b o : Nat} {kind k : Int} {u : Value} (h1 : w.cell? ⟨b, o, none⟩ = some (.int .i64 kind)) (h2 : w.cell? ⟨b, o + 1, none⟩ = some (.int .i64 k)) (h3 : w.cell? ⟨b, o + 2, none⟩ = some u) : w.rangeAt b o [.int .i64 kind, .int .i64 k, u] := by
  intro j v hj
  match j, hj with
  | 0, hj => simp at hj; subst hj; exact h1
  | 1, hj => simp at hj; subst hj; exact h2
  | 2, hj => simp at hj; subst hj; exact h3
theorem NodeAt.kept {w w' : World} {b o : Nat} {x : Nd} (h : NodeAt w b o x) (hk : Kept w w') : NodeAt w' b o x := by
  obtain ⟨u, h1, h2, h3, h4⟩ := h
  exact ⟨u, hk.cell h1, hk.cell h2, hk.cell h3, h4.kept hk⟩
theorem NodesAt.kept {w w' : World} {v : Value} {xs : List Nd} (h : NodesAt w v xs) (hk : Kept w w') : NodesAt w' v xs := by
  obtain ⟨a, c, h1, h2, h3, h4⟩ := h
  exact ⟨a, c, h1, h2, h3, fun i hi => let ⟨b, o, h5, h6⟩ := h4 i hi; ⟨b, o, h5, h6.kept hk⟩⟩

set_option maxHeartbeats 1000000 in
theorem arguments_any (kind : Int) (n : Nat) (w : World) : Calls Tryz.prog 115 #[.int .i64 kind, .int .i64 n] w fun e w' => e = .returned (.bool (argsOk kind n)) ∧ w = w' := by
  unfold argsOk
  by_cases h0 : kind = 0
  · subst h0
    go_enter Tryz.func115, Tryz.ntmps115
    go_wp2
    go_ret
    exact ⟨by simp; congr 1; rw [Bool.eq_iff_iff]; simp; try omega, rfl⟩
  · rw [if_neg h0]
    by_cases h1 : kind = 1
    · subst h1
      go_enter Tryz.func115, Tryz.ntmps115
      go_wp2
      go_ret
      exact ⟨by simp; congr 1; rw [Bool.eq_iff_iff]; simp; try omega, rfl⟩
    · rw [if_neg h1]
      have b0 : (kind == 0) = false := by simpa using h0
      have b1 : (kind == 1) = false := by simpa using h1
      clear h0 h1
      by_cases h2 : 1 ≤ n
      · by_cases h3 : n ≤ 16
        · rw [decide_eq_true ⟨h2, h3⟩]
          have h4 : (n : Int) ≤ 16 := by omega
          go_enter Tryz.func115, Tryz.ntmps115
          go_wp2
          go_ret
          exact ⟨rfl, rfl⟩
        · rw [decide_eq_false fun h => h3 h.2]
          have h4 : ¬ (n : Int) ≤ 16 := by omega
          go_enter Tryz.func115, Tryz.ntmps115
          go_wp2
          go_ret
          exact ⟨rfl, rfl⟩
      · rw [decide_eq_false fun h => h2 h.1]
        have h4 : ¬ (1 : Int) ≤ (n : Int) := by omega
        go_enter Tryz.func115, Tryz.ntmps115
        go_wp2
        go_ret
        exact ⟨rfl, rfl⟩
end Go.Proofs.YtpaedhlacbpmpaaGreatDoor

/-
  Plain: what lies below Top; valid formulas.
-/
namespace Go.Proofs.YtpaedhlacbpmpaaGreatDoor

def noNd : Nd := ⟨0, 0, []⟩
def markAll (m : List Bool) (args : List Int) : List Bool := args.foldl (fun m a => m.set a.toNat true) m
def belowGo (V : Nat) (nodes : List Nd) : Nat → List Bool → List Bool
  | 0, m => m
  | k + 1, m => belowGo V nodes k (if m.getD (V + k) false then markAll m (nodes.getD k noNd).args else m)
/-- The arguments below Top. -/
def belowK (V T : Nat) (nodes : List Nd) : List Bool := belowGo V nodes nodes.length ((List.replicate (V + nodes.length) false).set T true)
theorem len_markAll (args : List Int) : ∀ m, (markAll m args).length = m.length := by
  induction args with
  | nil => intro m; rfl
  | cons a l ih => intro m; show (markAll (m.set a.toNat true) l).length = _; rw [ih]; simp
theorem len_belowGo (V : Nat) (nodes : List Nd) : ∀ k m, (belowGo V nodes k m).length = m.length := by
  intro k
  induction k with
  | zero => intro m; rfl
  | succ k ih =>
    intro m
    unfold belowGo
    rw [ih]
    split
    · exact len_markAll _ _
    · rfl
theorem len_belowK (V T : Nat) (nodes : List Nd) : (belowK V T nodes).length = V + nodes.length := by
  unfold belowK; rw [len_belowGo]; simp

/-- A valid formula with V events. -/
structure Ok (f : Fm) (V T : Nat) : Prop where
  vars : f.vars = V
  top : f.top = T
  v24 : V ≤ 24
  n128 : f.nodes.length ≤ 128
  tlt : T < V + f.nodes.length
  kind : ∀ i (h : i < f.nodes.length), 0 ≤ f.nodes[i].kind ∧ f.nodes[i].kind ≤ 5
  args : ∀ i (h : i < f.nodes.length), ∀ a ∈ f.nodes[i].args, 0 ≤ a ∧ a < (V : Int) + i
  argc : ∀ i (h : i < f.nodes.length), argsOk f.nodes[i].kind f.nodes[i].args.length = true
  arity : ∀ i (h : i < f.nodes.length), chkK f.nodes[i].kind f.nodes[i].k f.nodes[i].args.length = 0
theorem argsOk_le {kind : Int} {n : Nat} (h : argsOk kind n = true) : n ≤ 16 := by
  unfold argsOk at h
  split at h
  · simp at h; omega
  · split at h
    · simp at h; omega
    · simp at h; omega
theorem chkNd_zero {b : Int} {x : Nd} (h : chkNd b x = 0) : (0 ≤ x.kind ∧ x.kind ≤ 5) ∧ argsOk x.kind x.args.length = true ∧ (∀ a ∈ x.args, 0 ≤ a ∧ a < b) ∧ chkK x.kind x.k x.args.length = 0 := by
  unfold chkNd at h
  split at h
  · cases h
  · split at h
    · cases h
    · split at h
      · cases h
      · rename_i h1 h2 h3
        refine ⟨by omega, by simpa using h2, ?_, h⟩
        rw [Bool.not_eq_false, List.all_eq_true] at h3
        intro a ha
        simpa using h3 a ha
theorem chkFrom_zero (b : Int) (xs : List Nd) (h : chkFrom b xs = 0) : ∀ i (hi : i < xs.length), chkNd (b + i) xs[i] = 0 := by
  induction xs generalizing b with
  | nil => intro i hi; simp at hi
  | cons x xs ih =>
    unfold chkFrom at h
    split at h
    · rename_i h0
      intro i hi
      cases i with
      | zero => simpa using h0
      | succ i =>
        have := ih (b + 1) h i (by simpa using hi)
        simpa [Int.add_assoc, Int.add_comm 1] using this
    · rename_i h0; exact absurd h h0
theorem ok_of (f : Fm) (h : chkF f = 0) : ∃ V T, Ok f V T := by
  unfold chkF at h
  split at h
  · cases h
  · split at h
    · cases h
    · split at h
      · rename_i h1 h2 h3
        split at h
        · rename_i h4
          simp only [okArg, decide_eq_true_eq] at h4
          obtain ⟨V, hV⟩ := Int.eq_ofNat_of_zero_le h4.1
          obtain ⟨T, hT⟩ := Int.eq_ofNat_of_zero_le h4.2.1
          have hz := chkFrom_zero _ _ h3
          refine ⟨V, T, hV, hT, by omega, by omega, by omega, ?_, ?_, ?_, ?_⟩
          · exact fun i hi => (chkNd_zero (hz i hi)).1
          · intro i hi a ha
            have := (chkNd_zero (hz i hi)).2.2.1 a ha
            omega
          · exact fun i hi => (chkNd_zero (hz i hi)).2.1
          · exact fun i hi => (chkNd_zero (hz i hi)).2.2.2
        · cases h
      · rename_i h3; exact absurd h h3
end Go.Proofs.YtpaedhlacbpmpaaGreatDoor

/-
  Walks: formula.below, bottomup.needed, faultlineref08.Below.
-/
namespace Go.Proofs.YtpaedhlacbpmpaaGreatDoor
open Go.RowKit

theorem getD_map_bool (m : List Bool) (i : Nat) (h : i < m.length) : (m.map Value.bool)[i]'(by simpa using h) = .bool (m.getD i false) := by
  simp [List.getD_eq_getElem?_getD, h]
end Go.Proofs.YtpaedhlacbpmpaaGreatDoor

/-
  Walks: formula.checkNode.
-/
namespace Go.Proofs.YtpaedhlacbpmpaaGreatDoor
open Go.RowKit

set_option maxHeartbeats 4000000 in
theorem checkNode_any (vars top : Int) (v : Value) (xs : List Nd) (i : Nat) (w : World) (hv : NodesAt w v xs) (hi : i < xs.length) (h0 : 0 ≤ vars) (h24 : vars ≤ 24) (hi9 : i ≤ 1000) :
    Calls Tryz.prog 81 #[.agg #[.int .i64 vars, v, .int .i64 top], .int .i64 i] w fun e w' => e = .returned (errV (chkNd (vars + i) xs[i])) ∧ Kept w w' := by
  obtain ⟨a, c, rfl, _, hl, hx⟩ := hv
  obtain ⟨b, o, rfl, u, hc1, hc2, hc3, hI⟩ := hx i hi
  obtain ⟨nl, hnl⟩ : ∃ nl, nl = xs.length := ⟨_, rfl⟩
  obtain ⟨x, hxx⟩ : ∃ x, x = xs[i] := ⟨_, rfl⟩
  rw [← hxx] at hc1 hc2 hI ⊢
  rw [← hnl] at hi hl ⊢
  obtain ⟨kind, k, args⟩ := x
  obtain ⟨aa, ca, rfl, _, hla, hca⟩ := hI
  simp only at hc1 hc2 hc3
  obtain ⟨n, hn⟩ : ∃ n, n = args.length := ⟨_, rfl⟩
  simp only at hca hla
  rw [← hn] at hc3 hla
  have HC := Lib.hid hca
  have HN := Lib.hid hn
  have hlt : (i : Int) < (nl : Int) := by omega
  have HR := Lib.hid (fun w' (hk : Kept w w') => node_range (hk.cell hc1) (hk.cell hc2) (hk.cell hc3))
  clear hx hxx hca hnl hn hc1 hc2 hc3
  unfold chkNd
  simp only
  by_cases hk : kind < 0 ∨ 5 < kind
  · rw [if_pos hk]
    rcases hk with hk | hk
    all_goals
      go_enter Tryz.func81, Tryz.ntmps81
      go_wp2_with (refine wpList_load_mid rfl 80 _ rfl b (o + i * 3) rfl _ _ (HR.out _ ((Kept.refl _).alloc _)) Tryz.underlying80 rfl (by kernel_rfl) ?_)
      go_ret
      exact ⟨rfl, ((Kept.refl _).alloc _).alloc _⟩
  · rw [if_neg hk]
    have hk1 : ¬ kind < 0 := by omega
    have hk2 : ¬ 5 < kind := by omega
    clear hk
    have HA := Lib.hid (fun W => arguments_any kind n W)
    have hn2 : args.length = n := HN.out.symm
    rw [hn2]
    clear hn2
    cases hao : argsOk kind n with
    | false =>
      rw [if_pos rfl]
      have HAO := Lib.hid hao
      clear hao
      go_enter Tryz.func81, Tryz.ntmps81
      go_wp2_with (first
        | (refine wpList_load_mid rfl 80 _ rfl b (o + i * 3) rfl _ _ (HR.out _ ((Kept.refl _).alloc _)) Tryz.underlying80 rfl (by kernel_rfl) ?_)
        | (go_at_call 115; refine (HA.out _).mono ?_; rintro e w2 ⟨rfl, rfl⟩; rw [HAO.out]))
      go_ret
      exact ⟨rfl, ((Kept.refl _).alloc _).alloc _⟩
    | true =>
      rw [if_neg (by simp)]
      have HAO := Lib.hid hao
      clear hao
      have hsum : vars + (i : Int) ≤ 1024 ∧ 0 ≤ vars + (i : Int) := by omega
      obtain ⟨r, hr⟩ : ∃ r, r = (if args.all (fun a => decide (0 ≤ a ∧ a < vars + (i : Int))) = false then 10 else chkK kind k n) := ⟨_, rfl⟩
      rw [← hr]
      have HRR := Lib.hid hr
      clear hr
      go_enter Tryz.func81, Tryz.ntmps81
      go_wp2_with (first
        | (refine wpList_load_mid rfl 80 _ rfl b (o + i * 3) rfl _ _ (HR.out _ ((Kept.refl _).alloc _)) Tryz.underlying80 rfl (by kernel_rfl) ?_)
        | (go_at_call 115; refine (HA.out _).mono ?_; rintro e w2 ⟨rfl, rfl⟩; rw [HAO.out]))
      go_loop [7, 33] (fun _ j => ∃ q : Nat, q ≤ n ∧ j = .int .i64 q ∧ Hid (∀ x ∈ args.take q, 0 ≤ x ∧ x < vars + (i : Int))) (fun _ j => n - (intOf j).toNat)
      case atStart => exact ⟨0, Nat.zero_le _, rfl, Lib.hid (by simp)⟩
      case round =>
        obtain ⟨q, hq, rfl, HF⟩ := hrel
        by_cases hqn : q < n
        · have hqx : q < args.length := by have := HN.out; omega
          obtain ⟨b2, o2, rfl, hc0⟩ := HC.out q hqx
          have hcell := (((Kept.refl w).alloc (.cells #[.int .i64 vars, .slice (some ⟨b, o, none⟩) nl c, .int .i64 top] 67)).alloc (.cells #[.int .i64 kind, .int .i64 k, .slice (some ⟨b2, o2, none⟩) n ca] 80)).cell hc0
          obtain ⟨y, hy⟩ : ∃ y, y = args[q] := ⟨_, rfl⟩
          rw [← hy] at hcell
          have HY := Lib.hid hy
          clear hc0 hy
          by_cases hy0 : y < 0
          · go_wp2
            go_ret
            refine ⟨?_, ((Kept.refl _).alloc _).alloc _⟩
            rw [HRR.out, if_pos]
            · rfl
            · rw [List.all_eq_false]
              exact ⟨y, by rw [HY.out]; exact List.getElem_mem _, by simp; omega⟩
          · by_cases hy1 : y < vars + (i : Int)
            · go_wp2
              go_round
              case rel =>
                refine ⟨q + 1, by omega, by go_num, Lib.hid ?_⟩
                intro z hz
                rw [List.take_succ_eq_append_getElem hqx] at hz
                rcases List.mem_append.1 hz with hz | hz
                · exact HF.out z hz
                · simp at hz; rw [hz, ← HY.out]; omega
              case measure => simp [intOf]; omega
            · go_wp2
              go_ret
              refine ⟨?_, ((Kept.refl _).alloc _).alloc _⟩
              rw [HRR.out, if_pos]
              · rfl
              · rw [List.all_eq_false]
                exact ⟨y, by rw [HY.out]; exact List.getElem_mem _, by simp; omega⟩
        · have hall : r = chkK kind k n := by
            rw [HRR.out, if_neg]
            have hh := HF.out
            rw [List.take_of_length_le (by have := HN.out; omega)] at hh
            rw [Bool.not_eq_false, List.all_eq_true]
            intro z hz; exact decide_eq_true (hh z hz)
          have HAL := Lib.hid hall
          clear hall
          by_cases e0 : kind = 0
          · by_cases k0 : k = 0
            · subst e0 k0; go_wp2; go_ret; exact ⟨by rw [HAL.out]; rfl, ((Kept.refl _).alloc _).alloc _⟩
            · by_cases k1 : k = 1
              · subst e0 k1; go_wp2; go_ret; exact ⟨by rw [HAL.out]; rfl, ((Kept.refl _).alloc _).alloc _⟩
              · have b0 : (k == 0) = false := by simpa using k0
                have b1 : (k == 1) = false := by simpa using k1
                have b2 : (k != 0) = true := by simpa using k0
                have b3 : (k != 1) = true := by simpa using k1
                subst e0; go_wp2; go_ret; exact ⟨by rw [HAL.out, chkK, if_pos rfl, if_neg (by omega)]; rfl, ((Kept.refl _).alloc _).alloc _⟩
          · by_cases e4 : kind = 4
            · by_cases k0 : 1 ≤ k
              · by_cases k1 : k ≤ n
                · subst e4; go_wp2; go_ret; exact ⟨by rw [HAL.out, chkK, if_neg (by omega), if_pos rfl, if_pos (by omega)]; rfl, ((Kept.refl _).alloc _).alloc _⟩
                · subst e4; go_wp2; go_ret; exact ⟨by rw [HAL.out, chkK, if_neg (by omega), if_pos rfl, if_neg (by omega)]; rfl, ((Kept.refl _).alloc _).alloc _⟩
              · subst e4; go_wp2; go_ret; exact ⟨by rw [HAL.out, chkK, if_neg (by omega), if_pos rfl, if_neg (by omega)]; rfl, ((Kept.refl _).alloc _).alloc _⟩
            · by_cases k0 : k = 0
              · subst k0; go_wp2; go_ret; exact ⟨by rw [HAL.out, chkK, if_neg e0, if_neg e4, if_pos rfl]; rfl, ((Kept.refl _).alloc _).alloc _⟩
              · have b0 : (k == 0) = false := by simpa using k0
                have b2 : (k != 0) = true := by simpa using k0
                go_wp2; go_ret; exact ⟨by rw [HAL.out, chkK, if_neg e0, if_neg e4, if_neg k0]; rfl, ((Kept.refl _).alloc _).alloc _⟩
end Go.Proofs.YtpaedhlacbpmpaaGreatDoor

/-
  Walks: formula.Valid, Check.
-/
namespace Go.Proofs.YtpaedhlacbpmpaaGreatDoor
open Go.RowKit

/-- A formula as a value. -/
abbrev fmV (v : Value) (f : Fm) : Value := .agg #[.int .i64 f.vars, v, .int .i64 f.top]

set_option maxHeartbeats 1000000 in
theorem validF_any (v : Value) (f : Fm) (w : World) (hv : NodesAt w v f.nodes) (h0 : 0 ≤ f.vars) (h24 : f.vars ≤ 24) (arg : Int) (ht : arg ≤ 9223372036854775807) :
    Calls Tryz.prog 82 #[fmV v f, .int .i64 arg] w fun e w' => e = .returned (.bool (okArg f arg)) ∧ Kept w w' := by
  obtain ⟨a, c, rfl, _, hl, hx⟩ := hv
  obtain ⟨vars, nodes, top⟩ := f
  simp only at hl hx h0 h24
  unfold okArg
  simp only
  clear hx
  obtain ⟨n, hn⟩ : ∃ n, n = nodes.length := ⟨_, rfl⟩
  rw [← hn] at hl ⊢
  clear hn
  by_cases h1 : 0 ≤ arg
  · by_cases h2 : arg < vars
    · rw [decide_eq_true ⟨h0, h1, .inl h2⟩]
      go_enter Tryz.func82, Tryz.ntmps82
      go_wp2
      go_ret
      exact ⟨rfl, (Kept.refl _).alloc _⟩
    · by_cases h3 : arg - vars < n
      · rw [decide_eq_true ⟨h0, h1, .inr h3⟩]
        go_enter Tryz.func82, Tryz.ntmps82
        go_wp2
        go_ret
        exact ⟨rfl, (Kept.refl _).alloc _⟩
      · rw [decide_eq_false (by rintro ⟨_, _, h | h⟩; exact h2 h; exact h3 h)]
        go_enter Tryz.func82, Tryz.ntmps82
        go_wp2
        go_ret
        exact ⟨rfl, (Kept.refl _).alloc _⟩
  · rw [decide_eq_false fun h => h1 h.2.1]
    go_enter Tryz.func82, Tryz.ntmps82
    go_wp2
    go_ret
    exact ⟨rfl, (Kept.refl _).alloc _⟩

theorem chkFrom_at (b : Int) (xs : List Nd) : ∀ (k : Nat) (h : k < xs.length), (∀ j (hj : j < k), chkNd (b + j) (xs[j]'(by omega)) = 0) → chkNd (b + k) xs[k] ≠ 0 → chkFrom b xs = chkNd (b + k) xs[k] := by
  induction xs generalizing b with
  | nil => intro k h; simp at h
  | cons x xs ih =>
    intro k h h1 h2
    unfold chkFrom
    cases k with
    | zero => simp at h2 ⊢; exact fun h => absurd h h2
    | succ k =>
      have h3 := h1 0 (by omega)
      simp at h3
      rw [if_pos h3]
      have := ih (b + 1) k (by simpa using h) (fun j hj => by
        have := h1 (j + 1) (by omega)
        simpa [Int.add_assoc, Int.add_comm 1] using this) (by simpa [Int.add_assoc, Int.add_comm 1] using h2)
      rw [this]
      simp [Int.add_assoc, Int.add_comm 1]
theorem chkFrom_none (b : Int) (xs : List Nd) (h : ∀ j (hj : j < xs.length), chkNd (b + j) xs[j] = 0) : chkFrom b xs = 0 := by
  induction xs generalizing b with
  | nil => rfl
  | cons x xs ih =>
    unfold chkFrom
    have h3 := h 0 (by simp)
    simp at h3
    rw [if_pos h3]
    refine ih (b + 1) fun j hj => ?_
    have := h (j + 1) (by simpa using hj)
    simpa [Int.add_assoc, Int.add_comm 1] using this

set_option maxHeartbeats 4000000 in
theorem check_any (v : Value) (f : Fm) (w : World) (hv : NodesAt w v f.nodes) (ht : f.top ≤ 9223372036854775807) :
    Calls Tryz.prog 42 #[fmV v f] w fun e w' => e = .returned (errV (chkF f)) ∧ Kept w w' := by
  obtain ⟨r, hr⟩ : ∃ r, r = chkF f := ⟨_, rfl⟩
  rw [← hr]
  have HV := Lib.hid hv
  have HRR := Lib.hid hr
  obtain ⟨a, c, rfl, _, hl, hx⟩ := hv
  obtain ⟨n, hn⟩ : ∃ n, n = f.nodes.length := ⟨_, rfl⟩
  rw [← hn] at hl HV ⊢
  have HN := Lib.hid hn
  obtain ⟨vars, hvars⟩ : ∃ x, x = f.vars := ⟨_, rfl⟩
  obtain ⟨top, htop⟩ : ∃ x, x = f.top := ⟨_, rfl⟩
  rw [← htop] at ht
  have HVA := Lib.hid hvars
  have HTO := Lib.hid htop
  unfold fmV
  rw [← hvars, ← htop]
  clear hx hr hn hvars htop
  by_cases h : vars < 0 ∨ 24 < vars
  · have h9 : r = 3 := by rw [HRR.out, chkF, if_pos (by rw [← HVA.out]; exact h)]
    subst h9
    rcases h with h | h
    all_goals
      go_enter Tryz.func42, Tryz.ntmps42
      go_wp2
      go_ret
      exact ⟨rfl, (Kept.refl _).alloc _⟩
  · have h0 : 0 ≤ vars := by omega
    have h24 : vars ≤ 24 := by omega
    have HH := Lib.hid (show ¬ (f.vars < 0 ∨ 24 < f.vars) by rw [← HVA.out]; exact h)
    clear h
    by_cases hn : 128 < n
    · have h9 : r = 4 := by rw [HRR.out, chkF, if_neg HH.out, if_pos (by rw [← HN.out]; exact hn)]
      subst h9
      go_enter Tryz.func42, Tryz.ntmps42
      go_wp2
      go_ret
      exact ⟨rfl, (Kept.refl _).alloc _⟩
    · have HH2 := Lib.hid (show ¬ 128 < f.nodes.length by rw [← HN.out]; exact hn)
      go_enter Tryz.func42, Tryz.ntmps42
      go_wp2
      go_loopw [3, 4, 22] (fun _ _ i wr => ∃ k : Nat, k ≤ n ∧ i = .int .i64 k ∧ Hid (∀ j (hj : j < f.nodes.length), j < k → chkNd (f.vars + j) f.nodes[j] = 0) ∧ Kept w wr ∧ wr.cell? ⟨w.heap.size, 0, none⟩ = some (.int .i64 vars) ∧ wr.cell? ⟨w.heap.size, 1, none⟩ = some (.slice a n c) ∧ wr.cell? ⟨w.heap.size, 2, none⟩ = some (.int .i64 top)) (fun _ _ i _ => n - (intOf i).toNat)
      case atStart => exact ⟨0, Nat.zero_le _, rfl, Lib.hid (by intro j _ h; omega), (Kept.refl _).alloc _, by simp, by simp, by simp⟩
      case round =>
        obtain ⟨k, hk, rfl, HF, hK, c0, c1, c2⟩ := hrel
        have hload : wr.rangeAt w.heap.size 0 [.int .i64 vars, .slice a n c, .int .i64 top] := by
          intro j v hj
          match j, hj with
          | 0, hj => simp at hj; subst hj; exact c0
          | 1, hj => simp at hj; subst hj; exact c1
          | 2, hj => simp at hj; subst hj; exact c2
        have HLD := Lib.hid hload
        clear hload
        by_cases hlt : k < n
        · have hkx : k < f.nodes.length := by have := HN.out; omega
          have hcall := checkNode_any f.vars f.top _ f.nodes k wr (HV.out.kept hK) hkx (by rw [← HVA.out]; exact h0) (by rw [← HVA.out]; exact h24) (by omega)
          rw [← HVA.out, ← HTO.out] at hcall
          obtain ⟨q, hq⟩ : ∃ q, q = chkNd (vars + k) f.nodes[k] := ⟨_, rfl⟩
          rw [← hq] at hcall
          have HQ := Lib.hid hq
          have HCL := Lib.hid hcall
          clear hq hcall
          by_cases hq0 : q = 0
          · have HE := Lib.hid (show errV q = .nilIface by rw [hq0]; rfl)
            go_wp2_with (first
              | (with_reducible refine wpList_load_mid rfl 67 _ rfl w.heap.size 0 rfl _ _ HLD.out Tryz.underlying67 rfl (by kernel_rfl) ?_)
              | (go_at_call 81; refine HCL.out.mono ?_; rintro e w2 ⟨rfl, hk2⟩; rw [HE.out]))
            go_roundw
            case rel =>
              refine ⟨k + 1, by omega, by go_num, Lib.hid ?_, hK.trans hk2, hk2.cell c0, hk2.cell c1, hk2.cell c2⟩
              intro j hj hjk
              by_cases e : j = k
              · subst e; rw [← HVA.out, ← HQ.out]; exact hq0
              · exact HF.out j hj (by omega)
            case measure => simp [intOf]; omega
          · have HE := Lib.hid (show errV q = .iface 50 (.int .i64 q) from errV_pos hq0)
            go_wp2_with (first
              | (with_reducible refine wpList_load_mid rfl 67 _ rfl w.heap.size 0 rfl _ _ HLD.out Tryz.underlying67 rfl (by kernel_rfl) ?_)
              | (go_at_call 81; refine HCL.out.mono ?_; rintro e w2 ⟨rfl, hk2⟩; rw [HE.out]))
            go_ret
            refine ⟨?_, hK.trans hk2⟩
            have e1 := chkFrom_at f.vars f.nodes k hkx (fun j hj => HF.out j (by omega) hj) (by rw [← HVA.out, ← HQ.out]; exact hq0)
            have e2 : r = q := by
              rw [HRR.out, chkF, if_neg HH.out, if_neg HH2.out]
              rw [← HVA.out, ← HQ.out] at e1
              rw [← HVA.out, e1, if_neg hq0]
            rw [e2, HE.out]; rfl
        · have hall := chkFrom_none f.vars f.nodes (fun j hj => HF.out j hj (by have := HN.out; omega))
          have hrr : r = if okArg f f.top then 0 else 10 := by rw [HRR.out, chkF, if_neg HH.out, if_neg HH2.out, if_pos hall]
          have hcall := validF_any _ f wr (HV.out.kept hK) (by rw [← HVA.out]; exact h0) (by rw [← HVA.out]; exact h24) f.top (by rw [← HTO.out]; exact ht)
          unfold fmV at hcall
          rw [← HTO.out, ← HVA.out] at hcall
          have HCL := Lib.hid hcall
          have HRF := Lib.hid hrr
          clear hcall hrr hall
          cases hok : okArg f top with
          | true =>
            have HOK := Lib.hid hok
            clear hok
            go_wp2_with (first
              | (with_reducible refine wpList_load_mid rfl 67 _ rfl w.heap.size 0 rfl _ _ HLD.out Tryz.underlying67 rfl (by kernel_rfl) ?_)
              | (go_at_call 82; refine HCL.out.mono ?_; rintro e w2 ⟨rfl, hk2⟩; rw [HOK.out]))
            go_ret
            exact ⟨by rw [HRF.out, ← HTO.out, HOK.out]; rfl, hK.trans hk2⟩
          | false =>
            have HOK := Lib.hid hok
            clear hok
            go_wp2_with (first
              | (with_reducible refine wpList_load_mid rfl 67 _ rfl w.heap.size 0 rfl _ _ HLD.out Tryz.underlying67 rfl (by kernel_rfl) ?_)
              | (go_at_call 82; refine HCL.out.mono ?_; rintro e w2 ⟨rfl, hk2⟩; rw [HOK.out]))
            go_ret
            exact ⟨by rw [HRF.out, ← HTO.out, HOK.out]; rfl, hK.trans hk2⟩
end Go.Proofs.YtpaedhlacbpmpaaGreatDoor

/-
  Slices of nodes of the call's own; walk: formula.Trim.
-/
namespace Go.Proofs.YtpaedhlacbpmpaaGreatDoor
open Go.RowKit

/-- A slice of nodes of these kinds. -/
def KindsAt (w : World) (v : Value) (ks : List Int) : Prop :=
  ∃ (a : Option Addr) (c : Nat), v = .slice a ks.length c ∧ (ks.length ≤ c ∧ (a = none → c = 0)) ∧ ks.length ≤ 140737488355328 ∧
    ∀ i (h : i < ks.length), ∃ b o, a = some ⟨b, o, none⟩ ∧ ∃ (u1 : Int) (sa : Option Addr) (sn sc : Nat), w.cell? ⟨b, o + i * 3, none⟩ = some (.int .i64 ks[i]) ∧ w.cell? ⟨b, o + i * 3 + 1, none⟩ = some (.int .i64 u1) ∧ w.cell? ⟨b, o + i * 3 + 2, none⟩ = some (.slice sa sn sc)
def OwnKinds (w : World) (B : Nat) (v : Value) (ks : List Int) : Prop :=
  ∃ cells, w.ownsRow B 80 3 v ks.length cells ∧ ks.length ≤ 100000 ∧ ∀ i (h : i < ks.length), cells[i * 3]? = some (.int .i64 ks[i]) ∧ ∃ (u1 : Int) (sa : Option Addr) (sn sc : Nat), cells[i * 3 + 1]? = some (.int .i64 u1) ∧ cells[i * 3 + 2]? = some (.slice sa sn sc)
/-- The kinds of the first k nodes that are marked. -/
def kindsUp (V : Nat) (mark : List Bool) (nodes : List Nd) : Nat → List Int
  | 0 => []
  | k + 1 => if mark.getD (V + k) false then kindsUp V mark nodes k ++ [(nodes.getD k noNd).kind] else kindsUp V mark nodes k
/-- What the last loop keeps. -/
structure TInv (w1 w3 wr : World) (g V n : Nat) (ov : Value) (tl : List Int) (ks : List Int) (mark : List Bool) : Prop where
  tlen : tl.length = V + n
  row : RowAt wr (w1.heap.size + 1) 3 (tl.map (.int .i64))
  box : RowAt wr w1.heap.size 67 [.int .i64 V, ov, .int .i64 0]
  own : OwnKinds wr w3.heap.size ov ks
  marks : RowAt wr g 4 (mark.map .bool)
  kept : Kept w1 wr
  size : w3.heap.size ≤ wr.heap.size
def toP (V n k : Nat) : List Int := (List.range k).map (fun i : Nat => (i : Int)) ++ List.replicate (V + n - k) 0
end Go.Proofs.YtpaedhlacbpmpaaGreatDoor

/-
  Walks: formula.Trim of a formula that is refused; coherent.Syntax.
-/
namespace Go.Proofs.YtpaedhlacbpmpaaGreatDoor
open Go.RowKit

/-- No negation and no exclusive or. -/
def monoK (ks : List Int) : Bool := ks.all fun k => !(k == 1 || k == 5)
def synK (V T : Nat) (f : Fm) : Bool := monoK (kindsUp V (belowK V T f.nodes) f.nodes f.nodes.length)

end Go.Proofs.YtpaedhlacbpmpaaGreatDoor

/-
  Rows of families; walk: bottomup.fold.
-/
namespace Go.Proofs.YtpaedhlacbpmpaaGreatDoor
open Go.RowKit

/-- Families in memory: a slice of slices of masks. -/
def FamsAt (w : World) (v : Value) (xss : List (List Nat)) : Prop := RowsAt SetsAt w v xss
/-- Families of the call's own, their rows too. -/
def OwnFams (w : World) (B : Nat) (v : Value) (xss : List (List Nat)) : Prop :=
  ∃ us : List Value, us.length = xss.length ∧ w.ownsRow B 78 1 v xss.length us ∧ xss.length ≤ 140737488355328 ∧ ∀ i (h : i < us.length) (h' : i < xss.length), OwnSets w 0 us[i] xss[i]
def foldK (op : List Nat → List Nat → Option (List Nat)) (first : List Nat) (args : List (List Nat)) : Option (List Nat) := args.foldlM op first
/-- A function value that joins two lists of sets. -/
def Joins (g : Nat) (op : List Nat → List Nat → Option (List Nat)) : Prop :=
  ∀ (a b : List Nat) (va vb : Value) (w : World), SetsAt w va a → SetsAt w vb b → Calls Tryz.prog g #[va, vb] w fun e w' => LRes w' w.heap.size e (op a b) ∧ Kept w w'
end Go.Proofs.YtpaedhlacbpmpaaGreatDoor

/-
  Walks: bottomup.vote.
-/
namespace Go.Proofs.YtpaedhlacbpmpaaGreatDoor
open Go.RowKit

/-- One place of the next row. -/
def nextAt (arg : List Nat) (t : List (List Nat)) (m : Nat) : Option (List Nat) := (productK arg (t.getD m [])).bind fun x => plusK x (t.getD (m + 1) [])
def voteUp (arg : List Nat) (t : List (List Nat)) : Nat → Option (List (List Nat))
  | 0 => some [[0]]
  | m + 1 => (voteUp arg t m).bind fun acc => (nextAt arg t m).map fun x => acc ++ [x]
def voteDown (k : Nat) (args : List (List Nat)) : Nat → List (List Nat) → Option (List (List Nat))
  | 0, t => some t
  | q + 1, t => (voteUp (args.getD q []) t k).bind (voteDown k args q)
/-- The sets of which at least k arguments are true. -/
def voteK (args : List (List Nat)) (k : Nat) : Option (List Nat) := (voteDown k args args.length ([0] :: List.replicate k [])).map fun t => t.getD k []
end Go.Proofs.YtpaedhlacbpmpaaGreatDoor

/-
  Walks: bottomup.vote.
-/
namespace Go.Proofs.YtpaedhlacbpmpaaGreatDoor
open Go.RowKit

theorem wrapT (m : Nat) (h : m ≤ 100000) : IntKind.i64.wrap (m : Int) = (m : Int) := IntWalk.i64_in _ (by omega)
theorem wrapS (m : Nat) (h : m ≤ 100000) : IntKind.i64.wrap ((m : Int) + 1 - 1) = (m : Int) := by
  rw [show (m : Int) + 1 - 1 = (m : Int) by omega]; exact wrapT m h
end Go.Proofs.YtpaedhlacbpmpaaGreatDoor

/-
  Walks: bottomup.node.
-/
namespace Go.Proofs.YtpaedhlacbpmpaaGreatDoor
open Go.RowKit

def nodeK (kind : Int) (k : Int) (fams : List (List Nat)) : Option (List Nat) :=
  if kind = 0 then (if k = 1 then some [0] else some []) else if kind = 3 then foldK plusK [] fams else if kind = 2 then foldK productK [0] fams else voteK fams k.toNat

end Go.Proofs.YtpaedhlacbpmpaaGreatDoor

/-
  Walks: bottomup.Families.
-/
namespace Go.Proofs.YtpaedhlacbpmpaaGreatDoor
open Go.RowKit

def famArg (V : Nat) (out : List (List Nat)) (a : Int) : List Nat := if a < V then [2 ^ a.toNat] else out.getD (a - V).toNat []
def famStep (V : Nat) (mark : List Bool) (nodes : List Nd) (out : List (List Nat)) (i : Nat) : Option (List (List Nat)) :=
  if mark.getD (V + i) false then (nodeK (nodes.getD i noNd).kind (nodes.getD i noNd).k ((nodes.getD i noNd).args.map (famArg V out))).map fun l => out.set i l else some out
def famsUp (V : Nat) (mark : List Bool) (nodes : List Nd) : Nat → Option (List (List Nat))
  | 0 => some (List.replicate nodes.length [])
  | k + 1 => (famsUp V mark nodes k).bind fun out => famStep V mark nodes out k
/-- The families of all needed nodes. -/
def famsK (V T : Nat) (nodes : List Nd) : Option (List (List Nat)) := famsUp V (belowK V T nodes) nodes nodes.length
def FRes (w' : World) (B : Nat) (e : Ending) (r : Option (List (List Nat))) : Prop :=
  match r with
  | some l => ∃ v, e = .returned (.tuple #[v, .nilIface]) ∧ OwnFams w' B v l
  | none => e = .returned (.tuple #[.slice none 0 0, errV 4])
theorem shl_mk (Y : Nat) (h : Y < 24) : wrap64 ((2 : Int) ^ Y) = ((2 ^ Y : Nat) : Int) ∧ Mk (2 ^ Y) := by
  have h1 : (2 : Nat) ^ Y < 2 ^ 24 := Nat.pow_lt_pow_right (by omega) h
  refine ⟨?_, h1⟩
  rw [show (2 : Int) ^ Y = ((2 ^ Y : Nat) : Int) by simp]
  generalize (2 : Nat) ^ Y = z at h1 ⊢
  unfold wrap64; omega
end Go.Proofs.YtpaedhlacbpmpaaGreatDoor

/-
  Walks: bottomup.Cuts.
-/
namespace Go.Proofs.YtpaedhlacbpmpaaGreatDoor
open Go.RowKit

def cutsK (V T : Nat) (nodes : List Nd) : Option (List Nat) := (famsK V T nodes).map fun l => if T < V then [2 ^ T] else l.getD (T - V) []
end Go.Proofs.YtpaedhlacbpmpaaGreatDoor

/-
  Walks: faultlinebase.Num, Ints, Rows.
-/
namespace Go.Proofs.YtpaedhlacbpmpaaGreatDoor
open Go.RowKit

theorem as_errno (v : Value) (w : World) : (Instr.typeAssert (.iface 50 v) 27 50 true).run Tryz.prog w = .ok (.tuple #[v, .bool true]) w := by kernel_rfl
set_option maxRecDepth 100000 in
theorem num_eq (c : Nat) (w : World) (hc : c ≤ 9223372036854775807) : Calls Tryz.prog 19 #[errV c] w fun e w' => e = .returned (.int .i64 c) ∧ w = w' := by
  by_cases h : c = 0
  · subst h
    rw [errV_zero]
    go_enter Tryz.func19, Tryz.ntmps19
    go_wp2
    refine bodyPost_ret (v := .int .i64 0) ?_ rfl ⟨rfl, rfl⟩
    simp [results, Tryz.results19, go_sem]
  · rw [errV_pos h]
    clear h
    go_enter Tryz.func19, Tryz.ntmps19
    go_wp2
    rw [as_errno]
    go_wp2
    go_ret
    exact ⟨rfl, rfl⟩
end Go.Proofs.YtpaedhlacbpmpaaGreatDoor

/-
  Walks: faultlinelaw31.Example.
-/
namespace Go.Proofs.YtpaedhlacbpmpaaGreatDoor
open Go.RowKit

/-- The document's example. -/
def exN : List Nd := [⟨3, 0, [0, 1]⟩, ⟨3, 0, [0, 2]⟩, ⟨2, 0, [3, 4]⟩]
theorem alloc_cell {w : World} {cs : Array Value} {e : TypeId} {g : Nat} (hg : g = w.heap.size) {j : Nat} {u : Value} (h : cs[j]? = some u) : (w.alloc (.cells cs e)).cell? ⟨g, j, none⟩ = some u := by
  subst hg
  simp only [World.cell?, heap_alloc_new]
  exact h
theorem pair_at {W : World} {g : Nat} {x y : Int} (h0 : W.cell? ⟨g, 0, none⟩ = some (.int .i64 x)) (h1 : W.cell? ⟨g, 1, none⟩ = some (.int .i64 y)) : IntsAt W (.slice (some ⟨g, 0, none⟩) 2 2) [x, y] := by
  refine ⟨_, 2, rfl, ⟨Nat.le_refl _, fun h => by cases h⟩, by simp, fun i hi => ⟨g, 0, rfl, ?_⟩⟩
  match i, hi with
  | 0, _ => simpa using h0
  | 1, _ => simpa using h1
end Go.Proofs.YtpaedhlacbpmpaaGreatDoor

/-
  Plain: the example's families.
-/
namespace Go.Proofs.YtpaedhlacbpmpaaGreatDoor
open Go.RowKit

def exF : Fm := ⟨3, exN, 5⟩
end Go.Proofs.YtpaedhlacbpmpaaGreatDoor

/-
  Walks: faultlinebase.Clip, faultlinelaw31.Heavy.
-/
namespace Go.Proofs.YtpaedhlacbpmpaaGreatDoor
open Go.RowKit

theorem clip_any (k : Int) (w : World) : Calls Tryz.prog 80 #[.int .i64 k, .int .i64 1, .int .i64 16] w fun e w' => (∃ z, e = .returned (.int .i64 z)) ∧ Kept w w' := by
  go_enter Tryz.func80, Tryz.ntmps80
  go_wp2
  all_goals (go_ret; exact ⟨⟨_, rfl⟩, Kept.refl _⟩)
end Go.Proofs.YtpaedhlacbpmpaaGreatDoor

/-
  The frame of the laws over a formula: an argument read as data is a formula in memory; the law's answer makes its row.
-/
namespace Go.Proofs.YtpaedhlacbpmpaaGreatDoor
open Go.RowKit Go.ChangeShapes Go.WideShapes Go.ChangeAt Go.Joins Go.Deep

theorem ownK : ownKnob Tryz.prog.godebug = none := by kernel_rfl
theorem laidOutK : laidOutB Tryz.prog = true := by kernel_rfl
theorem cells_fm : Tryz.prog.cellsOf 67 = 3 := by kernel_rfl
theorem cells_node : Tryz.prog.cellsOf 80 = 3 := by kernel_rfl
theorem cells_int : Tryz.prog.cellsOf 3 = 1 := by kernel_rfl
theorem cells_ints : Tryz.prog.cellsOf 78 = 1 := by kernel_rfl
theorem bytes_node : Tryz.prog.bytesOf 80 = 40 := by kernel_rfl
theorem bytes_int : Tryz.prog.bytesOf 3 = 8 := by kernel_rfl

theorem weightsAll_mem {H : Type} {P : Program} {e : TypeId} : ∀ {l : List (DataW H)} {d : DataW H}, d ∈ l → ∀ n ∈ d.weights P e, n ∈ DataW.weightsAll P e l
  | d' :: r, d, hd, n, hn => by
    simp only [DataW.weightsAll, List.mem_append]
    rcases List.mem_cons.1 hd with rfl | h
    · exact .inl hn
    · exact .inr (weightsAll_mem h n hn)

theorem addP (b o j : Nat) : (⟨b, o, none⟩ : Addr).add j = ⟨b, o + j, none⟩ := by unfold Addr.add; split <;> simp_all
section
variable {H : Type} {enc : TypeId × Value → H} {W : World} {base : Nat}
/-- Ints of a slice, read. -/
theorem ints_open {fuel : Nat} {cs : List Value} {x : DataW H × List MemPlace} (hb : ∀ n ∈ x.1.weights Tryz.prog 78, n ≤ reachBytes)
    (h : DataW.trod enc Tryz.prog W base (fun _ => true) true fuel 78 cs = some x) : ∃ u xs, cs = [u] ∧ IntsAt W u xs ∧ ∀ z ∈ xs, -9223372036854775808 ≤ z ∧ z ≤ 9223372036854775807 := by
  rcases open_ints Tryz.underlying78 Tryz.underlying3 cells_int h with ⟨rfl, rfl⟩ | ⟨a, len, cap, zs, rfl, _, hl, hm, hz, rfl, hcell, hwz⟩
  · exact ⟨_, [], rfl, IntsAt.nil _, by simp⟩
  · simp only [if_true] at hz
    have hbb := hb ((zs.take len).length * 8 + (zs.drop len).length * 8) (by
      simp only [DataW.weights, Tryz.underlying78, bytes_int, List.mem_cons]
      exact .inl (by simp [lits]; omega))
    simp [reachBytes] at hbb
    refine ⟨_, zs.take len, rfl, ⟨some a, cap, by simp; omega, ⟨by simp; omega, fun h => by cases h⟩, by simp; omega, fun i hi => ?_⟩, fun z hz => bounds_i64 (hwz z (List.mem_of_mem_take hz))⟩
    simp only [List.length_take] at hi
    have hc := hcell i (by omega)
    obtain ⟨b, o, spot⟩ := a
    have hspot : spot = none := World.cell?_spot (hcell 0 (by omega))
    subst hspot
    refine ⟨b, o, rfl, ?_⟩
    have e : (zs.take len)[i]'(by simp; omega) = zs.getD i 0 := by simp [List.getD_eq_getElem?_getD, show i < zs.length by omega]
    rw [e, ← hc]
    congr 1
    by_cases h0 : i = 0
    · subst h0; rfl
    · simp [Addr.add, h0]
instance : Inhabited Nd := ⟨⟨0, 0, []⟩⟩
/-- All numbers of a node are ints of 64 bits. -/
def NdOk (x : Nd) : Prop := (-9223372036854775808 ≤ x.kind ∧ x.kind ≤ 9223372036854775807) ∧ (-9223372036854775808 ≤ x.k ∧ x.k ≤ 9223372036854775807) ∧ ∀ z ∈ x.args, -9223372036854775808 ≤ z ∧ z ≤ 9223372036854775807
def FmOk (f : Fm) : Prop := (-9223372036854775808 ≤ f.vars ∧ f.vars ≤ 9223372036854775807) ∧ (-9223372036854775808 ≤ f.top ∧ f.top ≤ 9223372036854775807) ∧ ∀ x ∈ f.nodes, NdOk x
set_option maxRecDepth 100000 in
theorem nodes_open {fuel : Nat} {cs : List Value} {x : DataW H × List MemPlace} (hb : ∀ n ∈ x.1.weights Tryz.prog 65, n ≤ reachBytes)
    (h : DataW.trod enc Tryz.prog W base (fun _ => true) true fuel 65 cs = some x) : ∃ u xs, cs = [u] ∧ NodesAt W u xs ∧ ∀ y ∈ xs, NdOk y := by
  rcases open_slice Tryz.underlying65 h with ⟨rfl, rfl⟩ | ⟨a, len, cap, m, n, D, Pl, rfl, _, hl, hm, hmm, rfl, hx⟩
  · exact ⟨_, [], rfl, ⟨none, 0, rfl, ⟨by simp, fun _ => rfl⟩, by simp, fun i h => by simp at h⟩, by simp⟩
  · simp only [if_true] at hmm
    have hmc := hmm.symm
    subst hmc
    have hbb := hb (cap * 40) (by
      simp only [DataW.weights, Tryz.underlying65, bytes_node, List.mem_cons]
      refine .inl ?_
      simp; omega)
    simp [reachBytes] at hbb
    have each : ∀ i, i < len → ∃ y : Nd, NdOk y ∧ ∃ b o, a = ⟨b, o, none⟩ ∧ NodeAt W b (o + i * 3) y := by
      intro i hi
      obtain ⟨cs', hc, ht⟩ := hx i (by omega)
      rw [cells_node] at hc
      obtain ⟨_, hcl, hat⟩ := World.cells?_some hc
      obtain ⟨y0, y1, y2, n', hy, hlen, g0, g1, g2⟩ := trod_struct3 Tryz.underlying80 ht
      match cs', hcl with
      | [c0, c1, c2], _ =>
        have q0 := hat 0 (by omega)
        have q1 := hat 1 (by omega)
        have q2 := hat 2 (by omega)
        simp only [List.getElem?_cons_zero, List.getElem?_cons_succ] at q0 q1 q2
        have k0 : Tryz.prog.cellsOf 3 = 1 := cells_int
        have k2 : Tryz.prog.cellsOf 78 = 1 := cells_ints
        simp only [k0, k2, List.drop_zero, List.drop_succ_cons, List.take_succ_cons, List.take_zero] at g0 g1 g2
        obtain ⟨kd, e0, hy0, w0⟩ := DataW.trod_int Tryz.underlying3 g0
        obtain ⟨kk, e1, hy1, w1⟩ := DataW.trod_int Tryz.underlying3 g1
        simp at e0 e1
        subst e0 e1
        have hdi : D i = .agg [y0.1, y1.1, y2.1] := by simpa using congrArg Prod.fst hy
        obtain ⟨u, xs, e2, hu, hwu⟩ := ints_open (fun n hn => hb n (by
          simp only [DataW.weights, Tryz.underlying65, List.mem_cons, List.mem_append]
          refine .inr (.inl (weightsAll_mem (d := D i) (List.mem_map.2 ⟨i, by simpa using hi, rfl⟩) n ?_))
          rw [hdi]
          simp only [DataW.weights, Tryz.underlying80]
          simp only [List.map_cons, DataW.weightsEach, List.mem_append]
          exact .inr (.inr (.inl hn)))) g2
        simp at e2
        subst e2
        obtain ⟨b, o, spot⟩ := a
        have hspot : spot = none := by
          obtain ⟨cs0, hc0, _⟩ := hx 0 (by omega)
          rw [cells_node] at hc0
          obtain ⟨_, hcl0, hat0⟩ := World.cells?_some hc0
          have h1 := hat0 0 (by omega)
          rw [List.getElem?_eq_getElem (by omega)] at h1
          exact World.cell?_spot (a := ⟨b, o, spot⟩) (by simpa [Addr.add] using h1)
        subst hspot
        refine ⟨⟨kd, kk, xs⟩, ⟨bounds_i64 w0, bounds_i64 w1, hwu⟩, b, o, rfl, c2, ?_, ?_, ?_, hu⟩
        · rw [← q0, addP, addP]; rfl
        · rw [← q1, addP, addP]
        · rw [← q2, addP, addP]
    obtain ⟨g, hg⟩ := choose_lt each
    refine ⟨_, (List.range len).map g, rfl, ⟨some a, cap, by simp, ⟨by simp; omega, fun h => by cases h⟩, by simp; omega, fun i hi => ?_⟩, fun y hy => ?_⟩
    · simp only [List.length_map, List.length_range] at hi
      obtain ⟨_, b, o, rfl, h1⟩ := hg i hi
      exact ⟨b, o, rfl, by simpa using h1⟩
    · obtain ⟨i, hi, rfl⟩ := List.mem_map.1 hy
      exact (hg i (by simpa using hi)).1
set_option maxRecDepth 100000 in
/-- A formula that came in. -/
theorem fm_open {v : Value} {d : DataW H} {p : List MemPlace} (hv : Value.okWide Tryz.prog W .any base 67 v) (hb : ∀ n ∈ d.weights Tryz.prog 67, n ≤ reachBytes)
    (h : DataW.Trod enc Tryz.prog W 0 (fun _ => true) true 67 v d p) : ∃ u f, v = fmV u f ∧ NodesAt W u f.nodes ∧ FmOk f := by
  obtain ⟨v0, v1, v2, y0, y1, y2, n, rfl, hd, _, t0, t1, t2⟩ := open_agg3 Tryz.underlying67 (by kernel_rfl) cells_fm hv h
  obtain ⟨vars, e0, _, w0⟩ := DataW.trod_int Tryz.underlying3 t0
  obtain ⟨top, e2, _, w2⟩ := DataW.trod_int Tryz.underlying3 t2
  simp at e0 e2
  subst e0 e2
  obtain ⟨u, xs, e1, hu, hwu⟩ := nodes_open (fun n hn => hb n (by
    rw [hd]
    simp only [DataW.weights, Tryz.underlying67]
    simp only [List.map_cons, DataW.weightsEach, List.mem_append]
    exact .inr (.inl hn))) t1
  simp at e1
  subst e1
  exact ⟨v1, ⟨vars, xs, top⟩, rfl, hu, bounds_i64 w0, bounds_i64 w2, hwu⟩
end
end Go.Proofs.YtpaedhlacbpmpaaGreatDoor

/-
  What Families and Cuts answer, by cases; the formula in its block.
-/
namespace Go.Proofs.YtpaedhlacbpmpaaGreatDoor
open Go.RowKit

theorem fm_cells {w w1 : World} {x y z : Value} {e : TypeId} (hk : Kept (w.alloc (.cells #[x, y, z] e)) w1) : w1.cell? ⟨w.heap.size, 0, none⟩ = some x ∧ w1.cell? ⟨w.heap.size, 1, none⟩ = some y ∧ w1.cell? ⟨w.heap.size, 2, none⟩ = some z :=
  ⟨hk.cell (p := ⟨w.heap.size, 0, none⟩) (by simp), hk.cell (p := ⟨w.heap.size, 1, none⟩) (by simp), hk.cell (p := ⟨w.heap.size, 2, none⟩) (by simp)⟩
end Go.Proofs.YtpaedhlacbpmpaaGreatDoor

/-
  Walks: faultlinebase.Is. The frame of the laws of a formula and a small number.
-/
namespace Go.Proofs.YtpaedhlacbpmpaaGreatDoor
open Go.RowKit Go.ChangeShapes Go.WideShapes Go.ChangeAt Go.Joins Go.Deep

theorem as_nil (w : World) : (Instr.typeAssert .nilIface 27 50 true).run Tryz.prog w = .ok (.tuple #[.int .i64 0, .bool false]) w := by kernel_rfl
set_option maxRecDepth 100000 in
theorem is_any (q c : Nat) (hq : q ≠ 0) (w : World) : Calls Tryz.prog 32 #[errV q, .int .i64 c] w fun e w' => e = .returned (.bool (q == c)) ∧ w = w' := by
  rw [errV_pos hq]
  have e : ((q : Int) == (c : Int)) = (q == c) := by rw [Bool.eq_iff_iff]; simp; omega
  have HE := Lib.hid e
  clear hq e
  go_enter Tryz.func32, Tryz.ntmps32
  go_wp2
  rw [as_errno]
  go_wp2
  go_ret
  exact ⟨by rw [← HE.out]; rfl, rfl⟩
set_option maxRecDepth 100000 in
theorem is_nil (c : Nat) (w : World) : Calls Tryz.prog 32 #[.nilIface, .int .i64 c] w fun e w' => e = .returned (.bool false) ∧ w = w' := by
  go_enter Tryz.func32, Tryz.ntmps32
  go_wp2
  rw [as_nil]
  go_wp2
  go_ret
  exact ⟨rfl, rfl⟩
set_option maxRecDepth 100000 in
/-- A law of a formula and a number: from its walk to its row's step. -/
theorem lift2 {s : ChangeSpec} (F : FuncId) (fn : Func) (t2 : TypeId) (k2 : IntKind) (ht2 : Tryz.prog.underlying t2 = some (.int k2)) (hr2 : Tryz.prog.readableRec t2 = true) (hlt2 : t2 < Tryz.prog.types.size) (hs1 : s.vars = []) (hs2 : ∀ (H : Type) (d1 d2 : DataW H), s.fn H [d1, d2] = { results := [.lit (.bool true)], args := [d1, d2] })
    (hp : fn.params = #[67, t2]) (hr : fn.resultTypes = #[4])
    (walk : ∀ (W : World) (u : Value) (f : Fm) (x : Int), NodesAt W u f.nodes → FmOk f → (Lit.int k2 x).wf = true → Calls Tryz.prog F #[fmV u f, .int k2 x] W fun e w' => e = .returned (.bool true) ∧ Kept W w')
    {H : Type} {enc : TypeId × Value → H} (W : World) (base : Nat) (args : Array Value) (ds gs : List (DataW H)) (before : List MemPlace)
    (hval : ∀ (j : Nat) t v, fn.params[j]? = some t → args[j]? = some v → Value.okWide Tryz.prog W .any base t v)
    (hW : DataW.Whole enc Tryz.prog fn.params.toList s.vars false W args.toList ds gs before)
    (hsz : (DataW.weightsEach Tryz.prog (fn.params.toList ++ s.plain.varTypes Tryz.prog) (ds ++ gs)).all (· ≤ reachBytes) = true) :
    Calls Tryz.prog F args W fun e W' => ∃ v, e = .returned v ∧ s.post enc Tryz.prog fn false true false false W args v W' := by
  have hW' := hW
  obtain ⟨p, q, hA, hV, rfl, hfz, _⟩ := hW
  rw [hs1] at hV
  obtain ⟨rfl, rfl⟩ := trodVars_none hV
  rw [hp] at hA hval hsz
  obtain ⟨v0, v1, d0, d1, p0, p1, rfl, rfl, rfl, h0, h1⟩ := trodAll_two hA
  have h0k := h0
  have h1k := h1
  obtain ⟨u, f, rfl, hn, hok⟩ := fm_open (hval 0 _ _ rfl rfl) (fun n hn => by
    have := List.all_eq_true.1 hsz n (DataW.weights_mem_each (j := 0) rfl rfl n hn)
    simpa using this) h0
  obtain ⟨x, rfl, rfl, rfl, wx⟩ := open_int ht2 (hval 1 _ _ rfl rfl) h1
  have hlt : ∀ x ∈ p0, x.block < W.heap.size := fun x hx => hW'.lt x (by simp [hx])
  refine (walk W u f x hn hok wx).mono fun e W' ⟨he, hk⟩ => ?_
  subst he
  refine ⟨_, rfl, [d0, .lit (.int k2 x)], [], (p0 ++ []) ++ [], [], p0 ++ [], [], hW', ?_, ?_, ?_, Below.frame hk _, fun h => by cases h⟩
  · rw [hr]
    simp only [List.append_nil, hs2]
    exact trodAll_mk1 (shut_bool Tryz.underlying4 _)
  · rw [hp]
    simp only [List.append_nil, hs2]
    have := trodAll_mk2 (Below.trod laidOutK (by kernel_rfl) (of_decide_eq_true (by kernel_rfl)) h0k hk hlt) (Below.trod laidOutK hr2 hlt2 h1k hk (fun x hx => by cases hx))
    simpa using this
  · rw [hs1]
    simp only [List.append_nil, hs2]
    rfl
end Go.Proofs.YtpaedhlacbpmpaaGreatDoor

/-
  Plain: minimal families are the ones of the upward closed sets of masks; the closure of Plus and Product.
-/
namespace Go.Proofs.YtpaedhlacbpmpaaGreatDoor

theorem subN_iff {a b : Nat} : subN a b = true ↔ ∀ i, a.testBit i = true → b.testBit i = true := by
  unfold subN sdiff
  rw [beq_iff_eq]
  constructor
  · intro h i hi
    have h1 : (a ^^^ (a &&& b)).testBit i = false := by rw [h]; simp
    simp [hi] at h1
    exact h1
  · intro h
    apply Nat.eq_of_testBit_eq
    intro i
    simp only [Nat.testBit_xor, Nat.testBit_and, Nat.zero_testBit]
    cases ha : a.testBit i with
    | false => simp
    | true => simp [h i ha]
theorem subN_refl (a : Nat) : subN a a = true := subN_iff.2 fun _ h => h
theorem subN_half {a b : Nat} (h : subN a b = true) : a % 2 ≤ b % 2 ∧ subN (a / 2) (b / 2) = true := by
  have h' := subN_iff.1 h
  refine ⟨?_, subN_iff.2 fun i hi => ?_⟩
  · have h0 := h' 0
    simp only [Nat.testBit_zero, decide_eq_true_eq] at h0
    omega
  · have h0 := h' (i + 1)
    simp only [Nat.testBit_succ] at h0
    exact h0 hi
theorem pc_sub (n : Nat) : ∀ a b, b ≤ n → subN a b = true → pc a ≤ pc b ∧ (pc a = pc b → a = b) := by
  induction n using Nat.strongRecOn with
  | ind n ih =>
    intro a b hb h
    by_cases h0 : b = 0
    · subst h0
      have : a = 0 := by
        apply Nat.eq_of_testBit_eq
        intro i
        cases ha : a.testBit i with
        | false => simp
        | true => have := subN_iff.1 h i ha; simp at this
      subst this
      exact ⟨Nat.le_refl _, fun _ => rfl⟩
    · obtain ⟨h1, h2⟩ := subN_half h
      have := ih (b / 2) (by omega) (a / 2) (b / 2) (Nat.le_refl _) h2
      rw [pc_one a, pc_one b]
      refine ⟨by omega, fun he => ?_⟩
      have e2 : pc (a / 2) = pc (b / 2) := by omega
      have := this.2 e2
      omega
theorem subN_le {a b : Nat} (h : subN a b = true) : pc a ≤ pc b ∧ (pc a = pc b → a = b) := pc_sub b a b (Nat.le_refl _) h
/-- s contains a set of the list. -/
def up (l : List Nat) (s : Nat) : Prop := ∃ t ∈ l, subN t s = true
/-- A family as it is stored: sorted, no set in another one. -/
def Can (l : List Nat) : Prop := minK l = l
end Go.Proofs.YtpaedhlacbpmpaaGreatDoor

/-
  Plain: all families are stored sorted, no set in another one, and not too long.
-/
namespace Go.Proofs.YtpaedhlacbpmpaaGreatDoor

def Good (l : List Nat) : Prop := Can l ∧ l.length ≤ 1024
end Go.Proofs.YtpaedhlacbpmpaaGreatDoor

/-
  Plain: the values of a formula's arguments; what the families say of them.
-/
namespace Go.Proofs.YtpaedhlacbpmpaaGreatDoor

/-- How many of the arguments are true. -/
def trueN (vals : List Bool) : List Int → Nat
  | [] => 0
  | a :: l => (if vals.getD a.toNat false then 1 else 0) + trueN vals l
def nodeV (kind k : Int) (t m : Nat) : Bool :=
  if kind = 0 then k == 1 else if kind = 1 then t == 0 else if kind = 2 then t == m else if kind = 3 then decide (0 < t) else if kind = 4 then decide (k ≤ (t : Int)) else t % 2 == 1
/-- The values of the events, then of the first k nodes. -/
def valsUp (V s : Nat) (nodes : List Nd) : Nat → List Bool
  | 0 => (List.range V).map fun i => s.testBit i
  | k + 1 => valsUp V s nodes k ++ [nodeV (nodes.getD k noNd).kind (nodes.getD k noNd).k (trueN (valsUp V s nodes k) (nodes.getD k noNd).args) (nodes.getD k noNd).args.length]
def valsK (V s : Nat) (nodes : List Nd) : List Bool := valsUp V s nodes nodes.length
theorem len_valsUp (V s : Nat) (nodes : List Nd) (k : Nat) : (valsUp V s nodes k).length = V + k := by
  induction k with
  | zero => simp [valsUp]
  | succ k ih => unfold valsUp; simp [ih]; omega
theorem valsUp_get (V s : Nat) (nodes : List Nd) (j : Nat) : ∀ k i, i < V + j → j ≤ k → (valsUp V s nodes k).getD i false = (valsUp V s nodes j).getD i false := by
  intro k
  induction k with
  | zero => intro i hi hj; have : j = 0 := by omega
            subst this; rfl
  | succ k ih =>
    intro i hi hj
    by_cases e : j = k + 1
    · subst e; rfl
    · rw [← ih i hi (by omega)]
      show (valsUp V s nodes k ++ _).getD i false = _
      rw [List.getD_eq_getElem?_getD, List.getElem?_append_left (by rw [len_valsUp]; omega), ← List.getD_eq_getElem?_getD]
theorem valsUp_event (V s : Nat) (nodes : List Nd) (k i : Nat) (hi : i < V) : (valsUp V s nodes k).getD i false = s.testBit i := by
  rw [valsUp_get V s nodes 0 k i (by omega) (by omega)]
  simp [valsUp, List.getD_eq_getElem?_getD, hi]
theorem trueN_append (vals : List Bool) (a b : List Int) : trueN vals (a ++ b) = trueN vals a + trueN vals b := by
  induction a with
  | nil => simp [trueN]
  | cons x a ih => simp [trueN, ih]; omega
theorem trueN_le (vals : List Bool) (a : List Int) : trueN vals a ≤ a.length := by
  induction a with
  | nil => simp [trueN]
  | cons x a ih => simp only [trueN, List.length_cons]; split <;> omega
/-- How many families have a set inside s. -/
noncomputable def upN (s : Nat) : List (List Nat) → Nat
  | [] => 0
  | f :: l => (open Classical in if up f s then 1 else 0) + upN s l
theorem pow_sub (Y s : Nat) : subN (2 ^ Y) s = s.testBit Y := by
  rw [Bool.eq_iff_iff, subN_iff]
  constructor
  · intro h; exact h Y (by simp)
  · intro h i hi
    simp [Nat.testBit_two_pow] at hi
    subst hi
    exact h
/-- What is below a marked node is marked. -/
theorem markAll_keep (args : List Int) : ∀ (m : List Bool) (i : Nat), m.getD i false = true → (markAll m args).getD i false = true := by
  induction args with
  | nil => intro m i h; exact h
  | cons a l ih =>
    intro m i h
    refine ih (m.set a.toNat true) i ?_
    rw [List.getD_eq_getElem?_getD] at h ⊢
    by_cases e : a.toNat = i
    · subst e
      by_cases hl : a.toNat < m.length
      · rw [List.getElem?_set_self hl]; rfl
      · rw [List.getElem?_eq_none (by omega)] at h; cases h
    · rw [List.getElem?_set_ne e]; exact h
theorem markAll_mem (args : List Int) : ∀ (m : List Bool) (a : Int), a ∈ args → a.toNat < m.length → (markAll m args).getD a.toNat false = true := by
  induction args with
  | nil => intro m a h; cases h
  | cons x l ih =>
    intro m a ha hl
    rcases List.mem_cons.1 ha with e | e
    · subst e
      refine markAll_keep l (m.set a.toNat true) a.toNat ?_
      rw [List.getD_eq_getElem?_getD, List.getElem?_set_self hl]; rfl
    · exact ih (m.set x.toNat true) a e (by simpa using hl)
theorem markAll_other (args : List Int) : ∀ (m : List Bool) (i : Nat), (∀ a ∈ args, a.toNat ≠ i) → (markAll m args).getD i false = m.getD i false := by
  induction args with
  | nil => intro m i _; rfl
  | cons a l ih =>
    intro m i h
    rw [show markAll m (a :: l) = markAll (m.set a.toNat true) l from rfl, ih (m.set a.toNat true) i fun x hx => h x (List.mem_cons_of_mem _ hx)]
    rw [List.getD_eq_getElem?_getD, List.getElem?_set_ne (h a (List.mem_cons_self ..)), ← List.getD_eq_getElem?_getD]
theorem belowGo_keep (V : Nat) (nodes : List Nd) : ∀ k m i, m.getD i false = true → (belowGo V nodes k m).getD i false = true := by
  intro k
  induction k with
  | zero => intro m i h; exact h
  | succ k ih =>
    intro m i h
    unfold belowGo
    refine ih _ i ?_
    split
    · exact markAll_keep _ _ _ h
    · exact h
theorem belowGo_same (V : Nat) (nodes : List Nd) (hargs : ∀ i (h : i < nodes.length), ∀ a ∈ nodes[i].args, 0 ≤ a ∧ a < (V : Int) + i) : ∀ k m i, k ≤ nodes.length → k ≤ i → (belowGo V nodes k m).getD (V + i) false = m.getD (V + i) false := by
  intro k
  induction k with
  | zero => intro m i _ _; rfl
  | succ k ih =>
    intro m i hk hi
    unfold belowGo
    rw [ih _ i (by omega) (by omega)]
    split
    · refine markAll_other _ _ _ fun a ha e => ?_
      rw [show nodes.getD k noNd = nodes[k] by simp [List.getD_eq_getElem?_getD, show k < nodes.length by omega]] at ha
      have := hargs k (by omega) a ha
      omega
    · rfl
theorem belowGo_closed (V : Nat) (nodes : List Nd) (hargs : ∀ i (h : i < nodes.length), ∀ a ∈ nodes[i].args, 0 ≤ a ∧ a < (V : Int) + i) : ∀ k m, k ≤ nodes.length → m.length = V + nodes.length →
    ∀ i (_ : i < k) (h : i < nodes.length), (belowGo V nodes k m).getD (V + i) false = true → ∀ a ∈ nodes[i].args, (belowGo V nodes k m).getD a.toNat false = true := by
  intro k
  induction k with
  | zero => intro m _ _ i hi; omega
  | succ k ih =>
    intro m hk hm i hi h hmark a ha
    have hnd : nodes.getD k noNd = nodes[k] := by simp [List.getD_eq_getElem?_getD, show k < nodes.length by omega]
    unfold belowGo at hmark ⊢
    by_cases e : i = k
    · subst e
      have h2 := belowGo_same V nodes hargs i (if m.getD (V + i) false then markAll m (nodes.getD i noNd).args else m) i (by omega) (Nat.le_refl _)
      rw [h2] at hmark
      have hmi : m.getD (V + i) false = true := by
        by_cases hb : m.getD (V + i) false = true
        · exact hb
        · rw [if_neg hb] at hmark; exact hmark
      refine belowGo_keep V nodes i _ _ ?_
      rw [if_pos hmi, hnd]
      have := hargs i h a ha
      exact markAll_mem _ m a ha (by omega)
    · exact ih (if m.getD (V + k) false then markAll m (nodes.getD k noNd).args else m) (by omega) (by split; rw [len_markAll, hm]; exact hm) i (by omega) h hmark a ha
theorem below_closed (V T : Nat) (f : Fm) (hok : Ok f V T) : ∀ i (hi : i < f.nodes.length), (belowK V T f.nodes).getD (V + i) false = true → ∀ a ∈ f.nodes[i].args, (belowK V T f.nodes).getD a.toNat false = true := by
  intro i hi h a ha
  exact belowGo_closed V f.nodes hok.args f.nodes.length _ (Nat.le_refl _) (by simp) i hi hi h a ha
end Go.Proofs.YtpaedhlacbpmpaaGreatDoor

/-
  Walks: formula.values.
-/
namespace Go.Proofs.YtpaedhlacbpmpaaGreatDoor
open Go.RowKit

/-- A slice of bools of the call's own. -/
def OwnBools (w : World) (B : Nat) (v : Value) (bs : List Bool) : Prop := w.ownsRow B 4 1 v bs.length (bs.map Value.bool) ∧ bs.length ≤ 1000000
theorem OwnBools.kept {w w' : World} {B : Nat} {v : Value} {bs : List Bool} (h : OwnBools w B v bs) (hk : Kept w w') : OwnBools w' B v bs := ⟨own_kept h.1 hk, h.2⟩
theorem OwnBools.mono {w : World} {B B' : Nat} {v : Value} {bs : List Bool} (h : OwnBools w B v bs) (hb : B' ≤ B) : OwnBools w B' v bs := ⟨own_mono h.1 hb, h.2⟩
theorem OwnBools.shape {w : World} {B : Nat} {v : Value} {bs : List Bool} (h : OwnBools w B v bs) (h0 : bs ≠ []) : ∃ g cap, v = .slice (some ⟨g, 0, none⟩) bs.length cap ∧ B ≤ g ∧ g < w.heap.size ∧ bs.length ≤ cap := by
  obtain ⟨⟨_, h3⟩, _⟩ := h
  rcases h3 with ⟨_, h3⟩ | ⟨g, cap, cur, rfl, h4, h5, h6, _⟩
  · exact absurd (List.eq_nil_of_length_eq_zero h3) h0
  · exact ⟨g, cap, rfl, h4, heap_lt h5, h6⟩
theorem OwnBools.slice {w : World} {B : Nat} {v : Value} {bs : List Bool} (h : OwnBools w B v bs) : ∃ a c, v = .slice a bs.length c ∧ bs.length ≤ c := by
  obtain ⟨⟨_, h3⟩, _⟩ := h
  rcases h3 with ⟨rfl, h3⟩ | ⟨g, cap, cur, rfl, h4, h5, h6, _⟩
  · exact ⟨none, 0, by rw [h3], by omega⟩
  · exact ⟨_, cap, rfl, h6⟩
theorem OwnBools.cell {w : World} {B g n cap : Nat} {bs : List Bool} (h : OwnBools w B (.slice (some ⟨g, 0, none⟩) n cap) bs) (i : Nat) (hi : i < bs.length) : w.cell? ⟨g, i, none⟩ = some (.bool (bs.getD i false)) := by
  obtain ⟨⟨_, h6⟩, _⟩ := h
  rcases h6 with ⟨h6, _⟩ | ⟨g', cap', cur, h6, _, h7, h8, h9, h10, h11⟩
  · cases h6
  · cases h6
    have e1 : (cur.toList.take (bs.length * 1))[i]? = (bs.map Value.bool)[i]? := by rw [h11]
    rw [List.getElem?_take_of_lt (by omega)] at e1
    simp only [World.cell?, h7]
    simpa [hi, List.getD_eq_getElem?_getD] using e1
theorem OwnBools.free {w : World} {B g n cap : Nat} {bs : List Bool} (h : OwnBools w B (.slice (some ⟨g, 0, none⟩) n cap) bs) (i : Nat) : w.frozen? ⟨g, i, none⟩ = false := by
  obtain ⟨⟨_, h3⟩, _⟩ := h
  rcases h3 with ⟨h3, _⟩ | ⟨g', cap', cur, h3, _, h4, _⟩
  · cases h3
  · cases h3
    simp [World.frozen?, h4]
theorem OwnBools.store {w : World} {B g n cap : Nat} {bs : List Bool} (h : OwnBools w B (.slice (some ⟨g, 0, none⟩) n cap) bs) (hn : n = bs.length) (i : Nat) (b : Bool) : OwnBools (w.setCell ⟨g, i, none⟩ (.bool b)) B (.slice (some ⟨g, 0, none⟩) n cap) (bs.set i b) := by
  subst hn
  refine ⟨?_, by simpa using h.2⟩
  have := (h.1.stored i (.bool b)).1
  simpa [List.map_set] using this
theorem make_bools {ops : Array Oper} {rest : List Oper} {o : Oper} {a : Act} {Q : Exit → Act → World → Prop} {w : World} (hg : o.guard = none) (l c : Operand)
    (hop : o.op = Op.makeSlice 112 l c) (n m : Nat) (hl : a.eval l = .int .i64 n) (hc : a.eval c = .int .i64 m) (hnm : n ≤ m) (hb : m ≤ 1000000)
    (hK : ∀ w', OwnBools w' w.heap.size (.slice (some ⟨w.heap.size, 0, none⟩) n m) (List.replicate n false) → Kept w w' → w.heap.size < w'.heap.size → wpList Tryz.prog ops Q rest (a.put o.dst (.slice (some ⟨w.heap.size, 0, none⟩) n m)) w') : wpList Tryz.prog ops Q (o :: rest) a w := by
  obtain ⟨i0, hi0, hz0, hz1, hz2⟩ := info_parts info_bool
  refine wpList_plain hg fun K hK' => ?_
  have hrun := run_make (P := Tryz.prog) w 112 4 i0 _ Tryz.underlying112 hi0 hz0 .i64 .i64 n m (by omega) (by omega) (by rw [hz2]; omega) (by omega)
  simp only [Int.toNat_natCast] at hrun
  obtain ⟨w', hw'⟩ : ∃ w', w' = w.alloc (.cells (madeCells (Value.bool false).cells (m * i0.size)) 4) := ⟨_, rfl⟩
  rw [← hw'] at hrun
  unfold Oper.wp
  simp [execOp, hop, hl, hc, hrun, Result.andThen]
  subst hw'
  refine hK' _ _ (hK _ ?_ ((Kept.refl _).alloc _) (by simp))
  refine ⟨⟨by simp, .inr ⟨w.heap.size, m, _, by simp, Nat.le_refl _, heap_alloc_new w _, by simpa using hnm, by unfold maxLen; omega, by rw [size_madeCells, hz1], ?_⟩⟩, by simp; omega⟩
  simp only [hz1]
  rw [made_one _ rfl m]
  simp [List.take_replicate, Nat.min_eq_left hnm]
theorem app_bool {ops : Array Oper} {rest : List Oper} {o : Oper} {a : Act} {Q : Exit → Act → World → Prop} {w : World} (hgd : o.guard = none) (s x : Operand)
    (ho : o.op = .call { callee := .builtin .append, args := #[s, x], argTypes := #[112, 112] }) (B : Nat) (v : Value) (bs : List Bool) (hs : a.eval s = v) (hown : OwnBools w B v bs)
    (ad : Addr) (y : Bool) (hx : a.eval x = .slice (some ad) 1 1) (hc : w.cell? ad = some (.bool y)) (hl : bs.length < 1000000) (hB : B ≤ w.heap.size)
    (h : ∀ v' w', OwnBools w' B v' (bs ++ [y]) → Below B w w' → wpList Tryz.prog ops Q rest (a.put o.dst v') w') : wpList Tryz.prog ops Q (o :: rest) a w := by
  refine app_one 112 4 _ 1 info_bool Tryz.underlying112 rfl hgd s x ho B v (bs.map .bool) hs (by simpa using hown.1) ad _ hx hc rfl (by simp; omega) (by simp [maxLen]; omega) hB ?_
  intro v' w' h2 h3 h4
  exact h v' w' ⟨by simpa using h2, by simp; omega⟩ h4
theorem bit_val (s k : Nat) (hs : s < 16777216) : (bits .and .i64 ((s : Int) / 2 ^ k) 1 == 1) = s.testBit k := by
  have e : (s : Int) / 2 ^ k = ((s / 2 ^ k : Nat) : Int) := by simp
  have hle : s / 2 ^ k ≤ s := Nat.div_le_self _ _
  rw [e, show (1 : Int) = ((1 : Nat) : Int) from rfl, and_i64 _ _ (by omega) (by omega), Nat.testBit_eq_decide_div_mod_eq, Nat.and_one_is_mod]
  rw [Bool.eq_iff_iff]
  simp
  omega
theorem bits_step (V s k : Nat) (h : k < V) : ((List.range k).map (fun i => s.testBit i) ++ List.replicate (V - k) false).set k (s.testBit k) = (List.range (k + 1)).map (fun i => s.testBit i) ++ List.replicate (V - (k + 1)) false := by
  rw [List.set_append_right _ _ (by simp), show V - k = (V - (k + 1)) + 1 by omega, List.replicate_succ, List.range_succ]
  simp
/-- One node's value, by its kind. -/
theorem nodeV_cases {kind : Int} (h : 0 ≤ kind ∧ kind ≤ 5) : kind = 0 ∨ kind = 1 ∨ kind = 2 ∨ kind = 3 ∨ kind = 4 ∨ kind = 5 := by omega
set_option maxRecDepth 100000 in
set_option maxHeartbeats 8000000 in
theorem values_any (v : Value) (f : Fm) (V T s : Nat) (w : World) (hv : NodesAt w v f.nodes) (hok : Ok f V T) (hs : s < 16777216) :
    Calls Tryz.prog 88 #[.agg #[.int .i64 V, v, .int .i64 T], .int .i64 s] w fun e w' => (∃ v', e = .returned v' ∧ OwnBools w' w.heap.size v' (valsK V s f.nodes) ∧ (f.nodes.length = 0 → ∃ g, v' = .slice (some ⟨g, 0, none⟩) V V)) ∧ Kept w w' := by
  obtain ⟨a, c, rfl, _, hl, hx⟩ := hv
  obtain ⟨n, hn⟩ : ∃ n, n = f.nodes.length := ⟨_, rfl⟩
  rw [← hn] at hl ⊢
  have hn9 : n ≤ 128 := by rw [hn]; exact hok.n128
  have hV9 := hok.v24
  obtain ⟨r, hr⟩ : ∃ r, r = valsK V s f.nodes := ⟨_, rfl⟩
  rw [← hr]
  unfold valsK at hr
  rw [← hn] at hr
  have HX := Lib.hid hx
  have HN := Lib.hid hn
  have HO := Lib.hid hok
  have HR := Lib.hid hr
  clear hx hn hok hr hl
  go_enter Tryz.func88, Tryz.ntmps88
  go_wp2_with (at_make; refine make_bools rfl _ _ rfl V (V + n) rfl (by show Value.int .i64 ((V : Int) + n) = .int .i64 ((V + n : Nat) : Int); rw [Int.natCast_add]) (by omega) (by omega) ?_; intro w3 ho3 hk3 hz3; have O3 := Lib.hid ho3; clear ho3)
  have HK3 := Lib.hid hk3
  clear hk3
  simp only [World.size_alloc] at O3 HK3 hz3 ⊢
  go_loopw [6, 24] (fun _ i wr => ∃ k : Nat, k ≤ V ∧ i = .int .i64 k ∧ Hid (OwnBools wr (w.heap.size + 1) (.slice (some ⟨w.heap.size + 1, 0, none⟩) V (V + n)) ((List.range k).map (fun i => s.testBit i) ++ List.replicate (V - k) false) ∧ Kept (w.alloc (.cells #[.int .i64 V, .slice a n c, .int .i64 T] 67)) wr)) (fun _ i _ => V - (intOf i).toNat)
  case atStart => exact ⟨0, Nat.zero_le _, rfl, Lib.hid ⟨by simpa using O3.out, HK3.out⟩⟩
  case round =>
    obtain ⟨k, hk, rfl, HI⟩ := hrel
    have hlen : V = ((List.range k).map (fun i => s.testBit i) ++ List.replicate (V - k) false).length := by simp; omega
    by_cases hlt : k < V
    · have hc0 := HI.out.1.cell k (by simp; omega)
      have hf0 := HI.out.1.free k
      have HL := Lib.hid hlen
      have HBV := Lib.hid (bit_val s k hs)
      clear hlen
      go_wp2
      go_roundw
      case rel =>
        refine ⟨k + 1, by omega, by go_num, Lib.hid ⟨?_, HI.out.2.store (by simp) _ _⟩⟩
        have h7 := HI.out.1.store HL.out k (s.testBit k)
        rw [bits_step V s k hlt, ← HBV.out] at h7
        exact h7
      case measure => simp [intOf]; omega
    · have hkV : k = V := by omega
      have h0 : valsUp V s f.nodes 0 = (List.range k).map (fun i => s.testBit i) ++ List.replicate (V - k) false := by rw [hkV]; simp [valsUp]
      have hI := HI.out
      rw [← h0] at hI
      have HI0 := Lib.hid hI
      have q0 := hI.2.cell (p := ⟨w.heap.size, 0, none⟩) (v := .int .i64 V) (by simp)
      have q1 := hI.2.cell (p := ⟨w.heap.size, 1, none⟩) (v := .slice a n c) (by simp)
      clear hI h0 hkV HI O3 HK3 hlen hz3
      go_wp2_with fail
      obtain ⟨wb, rfl⟩ : ∃ wb : World, wb = wr := ⟨_, rfl⟩
      go_loopw [5, 8, 9, 11, 12, 39, 46] (fun vv _ _ _ _ i _ wr => ∃ k : Nat, k ≤ n ∧ i = .int .i64 k ∧ OwnBools wr (w.heap.size + 1) vv (valsUp V s f.nodes k) ∧ Hid (k = 0 → vv = .slice (some ⟨w.heap.size + 1, 0, none⟩) V (V + n)) ∧ Kept (w.alloc (.cells #[.int .i64 V, .slice a n c, .int .i64 T] 67)) wr) (fun _ _ _ _ _ i _ _ => n - (intOf i).toNat)
      case atStart => exact ⟨0, Nat.zero_le _, rfl, HI0.out.1, Lib.hid fun _ => rfl, HI0.out.2⟩
      case round =>
        obtain ⟨k, hk, rfl, hO, HZ, hK⟩ := hrel
        have HO1 := Lib.hid hO
        have HK := Lib.hid hK
        have hsz := hK.size
        simp only [World.size_alloc] at hsz
        by_cases hlt : k < n
        · have hkx : k < f.nodes.length := by have := HN.out; omega
          obtain ⟨b, o, rfl, u, hc1, hc2, hc3, hI⟩ := HX.out k hkx
          have hkA : Kept w wr := ((Kept.refl w).alloc _).trans hK
          have hrange := node_range (hkA.cell hc1) (hkA.cell hc2) (hkA.cell hc3)
          obtain ⟨ax, cx, rfl, _, hlx, hcx⟩ := hI
          have hargs := HO.out.args k hkx
          have h16 := argsOk_le (HO.out.argc k hkx)
          have hkind := HO.out.kind k hkx
          have hstep : valsUp V s f.nodes (k + 1) = valsUp V s f.nodes k ++ [nodeV f.nodes[k].kind f.nodes[k].k (trueN (valsUp V s f.nodes k) f.nodes[k].args) f.nodes[k].args.length] := by
            show valsUp V s f.nodes k ++ [nodeV (f.nodes.getD k noNd).kind (f.nodes.getD k noNd).k (trueN (valsUp V s f.nodes k) (f.nodes.getD k noNd).args) (f.nodes.getD k noNd).args.length] = _
            rw [show f.nodes.getD k noNd = f.nodes[k] by simp [List.getD_eq_getElem?_getD, hkx]]
          have hvl := len_valsUp V s f.nodes k
          obtain ⟨kd, hkd⟩ : ∃ x, x = f.nodes[k].kind := ⟨_, rfl⟩
          obtain ⟨kk, hkk⟩ : ∃ x, x = f.nodes[k].k := ⟨_, rfl⟩
          obtain ⟨args, hag⟩ : ∃ x, x = f.nodes[k].args := ⟨_, rfl⟩
          rw [← hag] at hcx hargs hlx h16 hstep hrange
          rw [← hkd] at hkind hstep hrange
          rw [← hkk] at hstep hrange
          obtain ⟨na, hna⟩ : ∃ x, x = args.length := ⟨_, rfl⟩
          rw [← hna] at hlx h16 hstep hrange
          obtain ⟨vals, hvals⟩ : ∃ x, x = valsUp V s f.nodes k := ⟨_, rfl⟩
          rw [← hvals] at hstep hvl HO1
          have HRG := Lib.hid hrange
          have HCX := Lib.hid hcx
          have HAR := Lib.hid hargs
          have HNA := Lib.hid hna
          have HST := Lib.hid hstep
          have HVL := Lib.hid hvl
          have HKA := Lib.hid hkA
          have hlw : w.heap.size < wr.heap.size := by omega
          obtain ⟨sa, sc, rfl, hscap⟩ := HO1.out.slice
          rw [hvl] at HO1 hscap ⊢
          clear hc1 hc2 hc3 hrange hcx hargs hna hstep hvl hkA hkd hkk hag hvals hO hK hlx
          go_wp2_with (with_reducible refine wpList_load_mid rfl 80 _ rfl b (o + k * 3) rfl _ _ HRG.out Tryz.underlying80 rfl (by kernel_rfl) ?_)
          obtain ⟨wo, rfl⟩ : ∃ wo : World, wo = wr := ⟨_, rfl⟩
          go_loop [9, 11, 46] (fun tn _ j => ∃ p : Nat, p ≤ na ∧ j = .int .i64 p ∧ tn = .int .i64 (trueN vals (args.take p) : Nat)) (fun _ _ j => na - (intOf j).toNat)
          case atStart => exact ⟨0, Nat.zero_le _, rfl, rfl⟩
          case round =>
            obtain ⟨p, hp, rfl, rfl⟩ := hrel
            have ht16 : trueN vals (args.take p) ≤ 16 := by have := trueN_le vals (args.take p); simp at this; omega
            by_cases hpn : p < na
            · have hpx : p < args.length := by have := HNA.out; omega
              obtain ⟨b2, o2, rfl, hc0⟩ := HCX.out p hpx
              have hcell := ((HKA.out).alloc (.cells #[.int .i64 kd, .int .i64 kk, .slice (some ⟨b2, o2, none⟩) na cx] 80)).cell hc0
              obtain ⟨y, hy⟩ : ∃ y, y = args[p] := ⟨_, rfl⟩
              have hy2 := HAR.out args[p] (List.getElem_mem _)
              have hst : trueN vals (args.take (p + 1)) = trueN vals (args.take p) + (vals.getD args[p].toNat false).toNat := by
                rw [List.take_succ_eq_append_getElem hpx, trueN_append]
                simp only [trueN]
                cases vals.getD args[p].toNat false <;> rfl
              rw [← hy] at hcell hy2 hst
              obtain ⟨Y, hY⟩ := Int.eq_ofNat_of_zero_le hy2.1
              subst hY
              simp only [Int.toNat_natCast] at hst
              have HO2 := HO1.out
              obtain ⟨g, cap, hge, hg1, hg2, _⟩ := HO2.shape (by intro e; have := HVL.out; rw [e] at this; simp at this; omega)
              injection hge with h1 h2 h3
              subst h1 h3
              have hcv := (((HO1.out).kept ((Kept.refl _).alloc (.cells #[.int .i64 kd, .int .i64 kk, .slice (some ⟨b2, o2, none⟩) na cx] 80))).cell Y (by have := HVL.out; omega))
              have hYl : (Y : Int) < ((V + k : Nat) : Int) := by omega
              have hYl2 : (Y : Int) < (V : Int) + (k : Int) := by omega
              obtain ⟨tq, htq⟩ : ∃ x, x = trueN vals (args.take p) := ⟨_, rfl⟩
              rw [← htq] at hst ht16 ⊢
              have HST2 := Lib.hid hst
              clear hc0 hy hst htq HO2 hg1 hg2
              cases hb : vals.getD Y false with
              | true =>
                rw [hb] at hcv
                have HB := Lib.hid hb
                clear hb
                go_wp2
                go_round
                case rel => exact ⟨p + 1, by omega, by go_num, by rw [HST2.out, HB.out]; rfl⟩
                case measure => simp [intOf]; omega
              | false =>
                rw [hb] at hcv
                have HB := Lib.hid hb
                clear hb
                go_wp2
                go_round
                case rel => exact ⟨p + 1, by omega, by go_num, by rw [HST2.out, HB.out]; rfl⟩
                case measure => simp [intOf]; omega
            · have hpe : args.take p = args := List.take_of_length_le (by have := HNA.out; omega)
              rw [hpe] at ht16 ⊢
              obtain ⟨tq, htq⟩ : ∃ x, x = trueN vals args := ⟨_, rfl⟩
              have hstep := HST.out
              rw [← htq] at hstep ht16 ⊢
              have HST2 := Lib.hid hstep
              clear hpe htq hstep
              have hcn := (((Kept.refl wo).alloc (.cells #[.int .i64 kd, .int .i64 kk, .slice ax na cx] 80)))
              have HCN := Lib.hid hcn
              clear hcn
              rcases nodeV_cases hkind with rfl | rfl | rfl | rfl | rfl | rfl
              · have HE : Hid (nodeV 0 kk tq na = (kk == 1)) := Lib.hid rfl
                go_wp2_with (at_builtin; refine app_bool rfl _ _ rfl (w.heap.size + 1) _ vals rfl (HO1.out.kept (HCN.out.alloc _)) _ (kk == 1) rfl (by simp) (by have := HVL.out; omega) (by simp; omega) ?_; intro v7 w7 hown7 hb7; have O7 := Lib.hid hown7; have HB7 := Lib.hid hb7; clear hown7 hb7)
                go_roundw
                case rel => exact ⟨k + 1, by omega, by go_num, by rw [HST2.out, HE.out]; exact O7.out, Lib.hid (fun h => by omega), (HK.out.trans (HCN.out.alloc _)).app (HB7.out.mono (by simp))⟩
                case measure => simp [intOf]; omega
              · have HE : Hid (nodeV 1 kk tq na = ((tq : Int) == 0)) := Lib.hid (by show (tq == 0) = _; rw [Bool.eq_iff_iff]; simp)
                go_wp2_with (at_builtin; refine app_bool rfl _ _ rfl (w.heap.size + 1) _ vals rfl (HO1.out.kept (HCN.out.alloc _)) _ ((tq : Int) == 0) rfl (by simp) (by have := HVL.out; omega) (by simp; omega) ?_; intro v7 w7 hown7 hb7; have O7 := Lib.hid hown7; have HB7 := Lib.hid hb7; clear hown7 hb7)
                go_roundw
                case rel => exact ⟨k + 1, by omega, by go_num, by rw [HST2.out, HE.out]; exact O7.out, Lib.hid (fun h => by omega), (HK.out.trans (HCN.out.alloc _)).app (HB7.out.mono (by simp))⟩
                case measure => simp [intOf]; omega
              · have HE : Hid (nodeV 2 kk tq na = ((tq : Int) == (na : Int))) := Lib.hid (by show (tq == na) = _; rw [Bool.eq_iff_iff]; simp; omega)
                go_wp2_with (at_builtin; refine app_bool rfl _ _ rfl (w.heap.size + 1) _ vals rfl (HO1.out.kept (HCN.out.alloc _)) _ ((tq : Int) == (na : Int)) rfl (by simp) (by have := HVL.out; omega) (by simp; omega) ?_; intro v7 w7 hown7 hb7; have O7 := Lib.hid hown7; have HB7 := Lib.hid hb7; clear hown7 hb7)
                go_roundw
                case rel => exact ⟨k + 1, by omega, by go_num, by rw [HST2.out, HE.out]; exact O7.out, Lib.hid (fun h => by omega), (HK.out.trans (HCN.out.alloc _)).app (HB7.out.mono (by simp))⟩
                case measure => simp [intOf]; omega
              · have HE : Hid (nodeV 3 kk tq na = (decide (0 < (tq : Int)))) := Lib.hid (by show decide (0 < tq) = _; rw [Bool.eq_iff_iff]; simp)
                go_wp2_with (at_builtin; refine app_bool rfl _ _ rfl (w.heap.size + 1) _ vals rfl (HO1.out.kept (HCN.out.alloc _)) _ (decide (0 < (tq : Int))) rfl (by simp) (by have := HVL.out; omega) (by simp; omega) ?_; intro v7 w7 hown7 hb7; have O7 := Lib.hid hown7; have HB7 := Lib.hid hb7; clear hown7 hb7)
                go_roundw
                case rel => exact ⟨k + 1, by omega, by go_num, by rw [HST2.out, HE.out]; exact O7.out, Lib.hid (fun h => by omega), (HK.out.trans (HCN.out.alloc _)).app (HB7.out.mono (by simp))⟩
                case measure => simp [intOf]; omega
              · have HE : Hid (nodeV 4 kk tq na = (decide (kk ≤ (tq : Int)))) := Lib.hid rfl
                go_wp2_with (at_builtin; refine app_bool rfl _ _ rfl (w.heap.size + 1) _ vals rfl (HO1.out.kept (HCN.out.alloc _)) _ (decide (kk ≤ (tq : Int))) rfl (by simp) (by have := HVL.out; omega) (by simp; omega) ?_; intro v7 w7 hown7 hb7; have O7 := Lib.hid hown7; have HB7 := Lib.hid hb7; clear hown7 hb7)
                go_roundw
                case rel => exact ⟨k + 1, by omega, by go_num, by rw [HST2.out, HE.out]; exact O7.out, Lib.hid (fun h => by omega), (HK.out.trans (HCN.out.alloc _)).app (HB7.out.mono (by simp))⟩
                case measure => simp [intOf]; omega
              · have HE : Hid (nodeV 5 kk tq na = ((tq : Int) % 2 == 1)) := Lib.hid (by show (tq % 2 == 1) = _; rw [Bool.eq_iff_iff]; simp; omega)
                go_wp2_with (at_builtin; refine app_bool rfl _ _ rfl (w.heap.size + 1) _ vals rfl (HO1.out.kept (HCN.out.alloc _)) _ ((tq : Int) % 2 == 1) rfl (by simp) (by have := HVL.out; omega) (by simp; omega) ?_; intro v7 w7 hown7 hb7; have O7 := Lib.hid hown7; have HB7 := Lib.hid hb7; clear hown7 hb7)
                go_roundw
                case rel => exact ⟨k + 1, by omega, by go_num, by rw [HST2.out, HE.out]; exact O7.out, Lib.hid (fun h => by omega), (HK.out.trans (HCN.out.alloc _)).app (HB7.out.mono (by simp))⟩
                case measure => simp [intOf]; omega
        · have hkn : k = n := by omega
          have hrr : r = valsUp V s f.nodes k := by rw [HR.out, hkn]
          have HRR := Lib.hid hrr
          obtain ⟨sa, sc, rfl, _⟩ := HO1.out.slice
          clear hkn hrr hO hK
          go_wp2
          go_ret
          exact ⟨⟨_, rfl, by rw [HRR.out]; exact HO1.out.mono (by omega), fun h0 => by
            have hn0 : n = 0 := h0
            have hz := HZ.out (by omega)
            exact ⟨_, by rw [hn0] at hz; exact hz⟩⟩, ((Kept.refl _).alloc _).trans HK.out⟩
end Go.Proofs.YtpaedhlacbpmpaaGreatDoor

/-
  Walks: formula.check, Value, Values; slices.Clone at []bool.
-/
namespace Go.Proofs.YtpaedhlacbpmpaaGreatDoor
open Go.RowKit

theorem shlW (V : Nat) (h : V ≤ 24) : wrap64 ((2 : Int) ^ V) = ((2 ^ V : Nat) : Int) := by
  have h1 : (2 : Nat) ^ V ≤ 2 ^ 24 := Nat.pow_le_pow_right (by omega) h
  rw [show (2 : Int) ^ V = ((2 ^ V : Nat) : Int) by simp]
  generalize (2 : Nat) ^ V = z at h1 ⊢
  unfold wrap64; omega
theorem lt_pow24 {V s : Nat} (h : V ≤ 24) (hs : s < 2 ^ V) : s < 16777216 := Nat.lt_of_lt_of_le hs (Nat.pow_le_pow_right (by omega) h : 2 ^ V ≤ 2 ^ 24)
/-- Bools that can be read. -/
def BoolsAt (w : World) (v : Value) (bs : List Bool) : Prop :=
  ∃ (a : Option Addr) (c : Nat), v = .slice a bs.length c ∧ bs.length ≤ c ∧ bs.length ≤ 1000000 ∧ ∀ i (_ : i < bs.length), ∃ b o, a = some ⟨b, o, none⟩ ∧ w.cell? ⟨b, o + i, none⟩ = some (.bool (bs.getD i false))
set_option maxRecDepth 100000 in
theorem fmcheck_ok (v : Value) (f : Fm) (V T s : Nat) (w : World) (hv : NodesAt w v f.nodes) (hok : Ok f V T) (hck : chkF f = 0) (hs : s < 2 ^ V) :
    Calls Tryz.prog 87 #[.agg #[.int .i64 V, v, .int .i64 T], .int .i64 s] w fun e w' => e = .returned .nilIface ∧ Kept w w' := by
  have hT := hok.tlt
  have hn := hok.n128
  have hV := hok.v24
  have hfm : fmV v f = .agg #[.int .i64 V, v, .int .i64 T] := by unfold fmV; rw [hok.vars, hok.top]
  have H : Hid (∀ W, Kept w W → Calls Tryz.prog 42 #[.agg #[.int .i64 V, v, .int .i64 T]] W fun e w' => e = .returned .nilIface ∧ Kept W w') := Lib.hid fun W hk => by
    have := check_any v f W (hv.kept hk) (by rw [hok.top]; omega)
    rw [hck, hfm] at this
    exact this
  obtain ⟨a, c, rfl, _⟩ := hv
  have e1 := shlW V hV
  have e2 : ¬ ((2 ^ V : Nat) : Int) ≤ (s : Int) := by omega
  have e3 : (s : Int) < ((2 ^ V : Nat) : Int) := by omega
  obtain ⟨z, hz⟩ : ∃ z, z = 2 ^ V := ⟨_, rfl⟩
  rw [← hz] at e1 e2 e3
  have b1 : decide ((s : Int) < 0) = false := by simp
  have b2 : decide ((z : Int) ≤ (s : Int)) = false := by simpa using e2
  clear hs hok hck hfm hz hT hn
  go_enter Tryz.func87, Tryz.ntmps87
  go_wp2_with fail
  refine (H.out _ ((Kept.refl _).alloc _)).mono ?_
  rintro e w1 ⟨rfl, hk1⟩
  have c0 := hk1.cell (p := ⟨w.heap.size, 0, none⟩) (v := .int .i64 V) (by simp)
  go_wp2
  go_ret
  exact ⟨rfl, ((Kept.refl _).alloc _).trans hk1⟩
set_option maxRecDepth 100000 in
set_option maxHeartbeats 2000000 in
theorem value_any (v : Value) (f : Fm) (V T s : Nat) (w : World) (hv : NodesAt w v f.nodes) (hok : Ok f V T) (hck : chkF f = 0) (hs : s < 2 ^ V) :
    Calls Tryz.prog 45 #[.agg #[.int .i64 V, v, .int .i64 T], .int .i64 s] w fun e w' => e = .returned (.tuple #[.bool ((valsK V s f.nodes).getD T false), .nilIface]) ∧ Kept w w' := by
  have HC : Hid (∀ W, Kept w W → Calls Tryz.prog 87 #[.agg #[.int .i64 V, v, .int .i64 T], .int .i64 s] W fun e w' => e = .returned .nilIface ∧ Kept W w') := Lib.hid fun W hk => fmcheck_ok v f V T s W (hv.kept hk) hok hck hs
  have HV : Hid (∀ W, Kept w W → Calls Tryz.prog 88 #[.agg #[.int .i64 V, v, .int .i64 T], .int .i64 s] W fun e w' => (∃ v', e = .returned v' ∧ OwnBools w' W.heap.size v' (valsK V s f.nodes)) ∧ Kept W w') := Lib.hid fun W hk => (values_any v f V T s W (hv.kept hk) hok (lt_pow24 hok.v24 hs)).mono fun _ _ ⟨⟨v', h1, h2, _⟩, h3⟩ => ⟨⟨v', h1, h2⟩, h3⟩
  have hT := hok.tlt
  have hn := hok.n128
  have hV := hok.v24
  have hlen : (valsK V s f.nodes).length = V + f.nodes.length := len_valsUp V s f.nodes f.nodes.length
  obtain ⟨vals, hvals⟩ : ∃ x, x = valsK V s f.nodes := ⟨_, rfl⟩
  rw [← hvals] at HV hlen ⊢
  have HL := Lib.hid hlen
  obtain ⟨a, c, rfl, _⟩ := hv
  obtain ⟨n, hnn⟩ : ∃ n, n = f.nodes.length := ⟨_, rfl⟩
  rw [← hnn] at HL hT hn HC HV ⊢
  have hT1 : (T : Int) < ((V + n : Nat) : Int) := by omega
  have hT2 : (T : Int) < (V : Int) + (n : Int) := by omega
  clear hs hok hck hvals hlen hnn
  go_enter Tryz.func45, Tryz.ntmps45
  go_wp2_with fail
  refine (HC.out _ ((Kept.refl _).alloc _)).mono ?_
  rintro e w1 ⟨rfl, hk1⟩
  have K1 := Lib.hid hk1
  have c0 := hk1.cell (p := ⟨w.heap.size, 0, none⟩) (v := .int .i64 V) (by simp)
  have c1 := hk1.cell (p := ⟨w.heap.size, 1, none⟩) (v := .slice a n c) (by simp)
  have c2 := hk1.cell (p := ⟨w.heap.size, 2, none⟩) (v := .int .i64 T) (by simp)
  clear hk1
  go_wp2_with fail
  go_region_with (go_at_call 88; refine (HV.out _ ((((Kept.refl _).alloc _).trans K1.out).trans (Kept.refl _).drew)).mono ?_; rintro e w5 ⟨⟨v5, rfl, hv5⟩, hk5⟩; obtain ⟨g5, c5, rfl, _, _, _⟩ := hv5.shape (by intro e; have := HL.out; rw [e] at this; simp at this; omega); have hc5 := hv5.cell T (by have := HL.out; omega); rw [HL.out]; have d0 := hk5.cell c0; have d1 := hk5.cell c1; have d2 := hk5.cell c2)
  all_goals (go_wp2_with fail)
  all_goals go_ret2
  all_goals exact ⟨rfl, (((Kept.refl _).alloc _).trans K1.out).trans ((Kept.refl _).drew.trans hk5)⟩
end Go.Proofs.YtpaedhlacbpmpaaGreatDoor

/-
  Plain: numbers as lists of words of 32 bits, the lowest first.
-/
namespace Go.Proofs.YtpaedhlacbpmpaaGreatDoor

/-- The number of a list of words. -/
def nv : List Nat → Nat
  | [] => 0
  | x :: l => x + 4294967296 * nv l
/-- The words of a number, without zeros at the end. -/
def nw (n : Nat) : List Nat := if h : n = 0 then [] else n % 4294967296 :: nw (n / 4294967296)
termination_by n
decreasing_by exact Nat.div_lt_self (by omega) (by omega)
/-- All are words. -/
def Wd (l : List Nat) : Prop := ∀ x ∈ l, x < 4294967296
theorem Wd.nil : Wd [] := fun x h => by simp at h
theorem Wd.cons {x : Nat} {l : List Nat} (h : x < 4294967296) (k : Wd l) : Wd (x :: l) := fun y hy => (List.mem_cons.1 hy).elim (fun e => by rw [e]; exact h) (k y)
theorem Wd.tail {x : Nat} {l : List Nat} (h : Wd (x :: l)) : Wd l := fun y hy => h y (List.mem_cons_of_mem _ hy)
theorem Wd.head {x : Nat} {l : List Nat} (h : Wd (x :: l)) : x < 4294967296 := h x (List.mem_cons_self ..)
theorem Wd.take {l : List Nat} (h : Wd l) (n : Nat) : Wd (l.take n) := fun y hy => h y (List.mem_of_mem_take hy)
theorem Wd.drop {l : List Nat} (h : Wd l) (n : Nat) : Wd (l.drop n) := fun y hy => h y (List.mem_of_mem_drop hy)
theorem Wd.app {a b : List Nat} (h : Wd a) (k : Wd b) : Wd (a ++ b) := fun y hy => (List.mem_append.1 hy).elim (h y) (k y)
theorem Wd.set {l : List Nat} (h : Wd l) (i x : Nat) (hx : x < 4294967296) : Wd (l.set i x) := fun y hy => (List.mem_or_eq_of_mem_set hy).elim (h y) (fun e => by rw [e]; exact hx)
theorem Wd.getD {l : List Nat} (h : Wd l) (i : Nat) : l.getD i 0 < 4294967296 := by
  rw [List.getD_eq_getElem?_getD]
  cases hi : l[i]? with
  | none => simp
  | some x => simpa using h x (List.mem_of_getElem? hi)
theorem Wd.zeros (n : Nat) : Wd (List.replicate n 0) := fun y hy => by have := List.eq_of_mem_replicate hy; omega
theorem nv_nil : nv [] = 0 := rfl
theorem nv_cons (x : Nat) (l : List Nat) : nv (x :: l) = x + 4294967296 * nv l := rfl
theorem nv_append (a b : List Nat) : nv (a ++ b) = nv a + 4294967296 ^ a.length * nv b := by
  induction a with
  | nil => simp [nv]
  | cons x a ih => rw [List.cons_append, nv_cons, nv_cons, ih, List.length_cons, Nat.pow_succ, Nat.mul_add, ← Nat.mul_assoc, Nat.mul_comm 4294967296 (4294967296 ^ a.length)]; omega
theorem nv_lt {a : List Nat} (h : Wd a) : nv a < 4294967296 ^ a.length := by
  induction a with
  | nil => simp [nv]
  | cons x a ih =>
    have h1 := ih h.tail
    have h2 := h.head
    rw [nv_cons, List.length_cons, Nat.pow_succ]
    omega
theorem nv_zeros (n : Nat) : nv (List.replicate n 0) = 0 := by
  induction n with
  | zero => rfl
  | succ n ih => rw [List.replicate_succ, nv_cons, ih]
theorem nv_take_succ (a : List Nat) (i : Nat) : nv (a.take (i + 1)) = nv (a.take i) + a.getD i 0 * 4294967296 ^ i := by
  by_cases h : i < a.length
  · rw [List.take_succ_eq_append_getElem h, nv_append, nv_cons, nv_nil, List.length_take, Nat.min_eq_left (Nat.le_of_lt h), Nat.mul_comm]
    simp [List.getD_eq_getElem?_getD, h]
  · rw [List.take_of_length_le (by omega), List.take_of_length_le (by omega)]
    simp [List.getD_eq_getElem?_getD, Nat.le_of_not_lt h]
theorem nv_take_all (a : List Nat) (i : Nat) (h : a.length ≤ i) : nv (a.take i) = nv a := by rw [List.take_of_length_le h]
theorem nv_split (a : List Nat) (i : Nat) (h : i ≤ a.length) : nv a = nv (a.take i) + 4294967296 ^ i * nv (a.drop i) := by
  conv => lhs; rw [← List.take_append_drop i a]
  rw [nv_append, List.length_take, Nat.min_eq_left h]
theorem nv_set (l : List Nat) : ∀ (i x : Nat), i < l.length → nv (l.set i x) + l.getD i 0 * 4294967296 ^ i = nv l + x * 4294967296 ^ i := by
  induction l with
  | nil => intro i x h; simp at h
  | cons y l ih =>
    intro i x h
    cases i with
    | zero => simp [nv_cons]; omega
    | succ i =>
      have := ih i x (by simpa using h)
      rw [List.set_cons_succ, nv_cons, nv_cons, List.getD_cons_succ, Nat.pow_succ, ← Nat.mul_assoc, ← Nat.mul_assoc, Nat.mul_comm _ 4294967296, Nat.mul_comm (x * _) 4294967296]
      omega
theorem nw_zero : nw 0 = [] := by rw [nw]; simp
theorem nw_pos {n : Nat} (h : n ≠ 0) : nw n = n % 4294967296 :: nw (n / 4294967296) := by rw [nw]; simp [h]
theorem nw_wd : ∀ n, Wd (nw n) := by
  intro n
  induction n using Nat.strongRecOn with
  | _ n ih =>
    by_cases h : n = 0
    · subst h; rw [nw_zero]; exact Wd.nil
    · rw [nw_pos h]; exact Wd.cons (Nat.mod_lt _ (by omega)) (ih _ (Nat.div_lt_self (by omega) (by omega)))
theorem nv_nw : ∀ n, nv (nw n) = n := by
  intro n
  induction n using Nat.strongRecOn with
  | _ n ih =>
    by_cases h : n = 0
    · subst h; rw [nw_zero]; rfl
    · rw [nw_pos h, nv_cons, ih _ (Nat.div_lt_self (by omega) (by omega))]; omega
/-- No zero at the end. -/
def Pl (l : List Nat) : Prop := ∀ h : l ≠ [], l.getLast h ≠ 0
theorem nw_nv : ∀ {l : List Nat}, Wd l → Pl l → nw (nv l) = l := by
  intro l
  induction l with
  | nil => intro _ _; exact nw_zero
  | cons x l ih =>
    intro hw hp
    have hx := hw.head
    have hne : nv (x :: l) ≠ 0 := by
      rw [nv_cons]
      by_cases hl : l = []
      · subst hl
        have := hp (by simp)
        simp at this
        rw [nv_nil]; omega
      · intro h0
        have h1 : nv l = 0 := by omega
        have h2 := ih hw.tail (fun h => by have := hp (by simp); rwa [List.getLast_cons h] at this)
        rw [h1, nw_zero] at h2
        exact hl h2.symm
    rw [nw_pos hne, nv_cons]
    have e1 : (x + 4294967296 * nv l) % 4294967296 = x := by omega
    have e2 : (x + 4294967296 * nv l) / 4294967296 = nv l := by omega
    rw [e1, e2, ih hw.tail fun h => by have := hp (by simp); rwa [List.getLast_cons h] at this]
theorem nw_pl (n : Nat) : Pl (nw n) := by
  induction n using Nat.strongRecOn with
  | _ n ih =>
    by_cases h : n = 0
    · subst h; rw [nw_zero]; intro h; exact absurd rfl h
    · rw [nw_pos h]
      intro _
      have h2 := ih (n / 4294967296) (Nat.div_lt_self (by omega) (by omega))
      by_cases h3 : nw (n / 4294967296) = []
      · have h4 : n / 4294967296 = 0 := by have := nv_nw (n / 4294967296); rw [h3] at this; exact this.symm
        simp [h3]; omega
      · rw [List.getLast_cons h3]; exact h2 h3
/-- The words of a list up to its last word that is not zero. -/
theorem nw_take {a : List Nat} (hw : Wd a) {n : Nat} (hn : n ≤ a.length) (hz : ∀ i, n ≤ i → a.getD i 0 = 0) (hl : n = 0 ∨ a.getD (n - 1) 0 ≠ 0) : nw (nv a) = a.take n := by
  have h1 : nv a = nv (a.take n) := by
    have : ∀ k, nv (a.take (n + k)) = nv (a.take n) := by
      intro k
      induction k with
      | zero => rfl
      | succ k ih => rw [← Nat.add_assoc, nv_take_succ, ih, hz (n + k) (by omega), Nat.zero_mul, Nat.add_zero]
    have h2 := this a.length
    rw [nv_take_all a _ (by omega)] at h2
    exact h2
  rw [h1]
  refine nw_nv (hw.take n) fun h => ?_
  have hpos : 0 < n := by
    rcases Nat.eq_zero_or_pos n with rfl | h2
    · simp at h
    · exact h2
  have := hl.resolve_left (by omega)
  rw [List.getLast_eq_getElem]
  simp only [List.getElem_take, List.length_take, Nat.min_eq_left hn]
  rw [List.getD_eq_getElem?_getD, List.getElem?_eq_getElem (by omega)] at this
  simpa using this
theorem nw_len_lt {n k : Nat} : (nw n).length ≤ k ↔ n < 4294967296 ^ k := by
  constructor
  · intro h
    have h1 := nv_lt (nw_wd n)
    rw [nv_nw] at h1
    exact Nat.lt_of_lt_of_le h1 (Nat.pow_le_pow_right (by omega) h)
  · intro h
    induction k generalizing n with
    | zero => simp at h; subst h; rw [nw_zero]; simp
    | succ k ih =>
      by_cases h0 : n = 0
      · subst h0; rw [nw_zero]; simp
      · rw [nw_pos h0, List.length_cons]
        have := ih (n := n / 4294967296) (by rw [Nat.pow_succ] at h; exact Nat.div_lt_of_lt_mul (by rw [Nat.mul_comm]; exact h))
        omega
theorem nw_eq_nil {n : Nat} : nw n = [] ↔ n = 0 := by
  constructor
  · intro h; have := nv_nw n; rw [h] at this; exact this.symm
  · intro h; rw [h]; exact nw_zero
/-- The highest word that differs decides. -/
theorem nv_lt_at {a b : List Nat} (ha : Wd a) (hl : a.length = b.length) {k : Nat} (hk : k < a.length) (hd : ∀ i, k < i → a.getD i 0 = b.getD i 0) (hlt : a.getD k 0 < b.getD k 0) : nv a < nv b := by
  have key : ∀ j, nv (a.take (k + 1 + j)) < nv (b.take (k + 1 + j)) := by
    intro j
    induction j with
    | zero =>
      rw [Nat.add_zero, nv_take_succ, nv_take_succ]
      have h1 := nv_lt (ha.take k)
      rw [List.length_take, Nat.min_eq_left (Nat.le_of_lt hk)] at h1
      have h2 : (a.getD k 0 + 1) * 4294967296 ^ k ≤ b.getD k 0 * 4294967296 ^ k := Nat.mul_le_mul_right _ hlt
      rw [Nat.add_mul, Nat.one_mul] at h2
      omega
    | succ j ih =>
      rw [← Nat.add_assoc, nv_take_succ, nv_take_succ, hd (k + 1 + j) (by omega)]
      omega
  have := key a.length
  rwa [nv_take_all a _ (by omega), nv_take_all b _ (by omega)] at this
theorem nv_eq_of {a b : List Nat} (hl : a.length = b.length) (hd : ∀ i, a.getD i 0 = b.getD i 0) : a = b := by
  refine List.ext_getElem hl fun i h1 h2 => ?_
  have := hd i
  simpa [List.getD_eq_getElem?_getD, h1, h2] using this
/-- Fewer words, less. -/
theorem nw_lt_len {m n : Nat} (h : (nw m).length < (nw n).length) : m < n := by
  have h1 := (nw_len_lt (n := m)).1 (Nat.le_refl _)
  have h2 : ¬ n < 4294967296 ^ (nw m).length := fun h2 => by have := nw_len_lt.2 h2; omega
  omega
end Go.Proofs.YtpaedhlacbpmpaaGreatDoor

/-
  Plain: the steps of sums, differences, products and quotients of lists of words.
-/
namespace Go.Proofs.YtpaedhlacbpmpaaGreatDoor

theorem mul_divmod (s P : Nat) : (s % 4294967296) * P + (s / 4294967296) * (4294967296 * P) = s * P := by
  have h := Nat.div_add_mod s 4294967296
  have h2 : (s % 4294967296) * P + (s / 4294967296) * (4294967296 * P) = (4294967296 * (s / 4294967296) + s % 4294967296) * P := by
    rw [Nat.add_mul, Nat.mul_comm 4294967296 (s / 4294967296), Nat.mul_assoc]; omega
  rw [h2, h]
theorem nv_take_set {l : List Nat} {i : Nat} (h : i < l.length) (x : Nat) : nv ((l.set i x).take (i + 1)) = nv (l.take i) + x * 4294967296 ^ i := by
  rw [nv_take_succ, List.take_set_of_le (Nat.le_refl _)]
  simp [List.getD_eq_getElem?_getD, h]
theorem getD_set_self {l : List Nat} {i : Nat} (h : i < l.length) (x : Nat) : (l.set i x).getD i 0 = x := by simp [List.getD_eq_getElem?_getD, h]
theorem getD_set_ne {l : List Nat} {i j : Nat} (h : i ≠ j) (x : Nat) : (l.set i x).getD j 0 = l.getD j 0 := by simp [List.getD_eq_getElem?_getD, List.getElem?_set_ne h]
theorem wadd_step {O c X Y x y P s : Nat} (h : O + c * P = X + Y) (hs : s = c + x + y) : (O + (s % 4294967296) * P) + (s / 4294967296) * (4294967296 * P) = (X + x * P) + (Y + y * P) := by
  have h1 := mul_divmod s P
  have h2 : s * P = c * P + x * P + y * P := by rw [hs, Nat.add_mul, Nat.add_mul]
  omega
/-- A difference of words, with a borrow. -/
theorem sub_step {O b X Y x y P o b' : Nat} (h : O + Y = X + b * P) (hs : o + y + b = x + b' * 4294967296) : (O + o * P) + (Y + y * P) = (X + x * P) + b' * (4294967296 * P) := by
  have h2 : (o + y + b) * P = (x + b' * 4294967296) * P := by rw [hs]
  rw [Nat.add_mul, Nat.add_mul, Nat.add_mul, Nat.mul_assoc] at h2
  omega
theorem nv_zero_of {l : List Nat} (h : nv l = 0) : ∀ i, l.getD i 0 = 0 := by
  induction l with
  | nil => simp
  | cons x l ih =>
    rw [nv_cons] at h
    intro i
    cases i with
    | zero => rw [List.getD_cons_zero]; omega
    | succ i => rw [List.getD_cons_succ]; exact ih (by omega) i
theorem getD_drop (l : List Nat) (k i : Nat) : (l.drop k).getD i 0 = l.getD (k + i) 0 := by simp [List.getD_eq_getElem?_getD]
theorem getD_take {l : List Nat} {k i : Nat} (h : i < k) : (l.take k).getD i 0 = l.getD i 0 := by simp [List.getD_eq_getElem?_getD, List.getElem?_take_of_lt h]
/-- A number of few words has zeros behind them. -/
theorem zero_above {l : List Nat} {k : Nat} (h : nv l < 4294967296 ^ k) : (∀ j, k ≤ j → l.getD j 0 = 0) ∧ nv (l.take k) = nv l := by
  by_cases hk : k ≤ l.length
  · have h1 := nv_split l k hk
    have h2 : nv (l.drop k) = 0 := by
      rcases Nat.eq_zero_or_pos (nv (l.drop k)) with h3 | h3
      · exact h3
      · have : 4294967296 ^ k * 1 ≤ 4294967296 ^ k * nv (l.drop k) := Nat.mul_le_mul_left _ h3
        omega
    refine ⟨fun j hj => ?_, by rw [h1, h2]; omega⟩
    have := nv_zero_of h2 (j - k)
    rwa [getD_drop, Nat.add_sub_cancel' hj] at this
  · refine ⟨fun j hj => ?_, nv_take_all _ _ (by omega)⟩
    simp [List.getD_eq_getElem?_getD, show l.length ≤ j by omega]
/-- A step of a product's row. -/
theorem mul_step {N c M x Y P y w s : Nat} (h : N + c * P = M + x * Y) (hs : s = c + x * y + w) : ∀ N', N' + w * P = N + (s % 4294967296) * P → N' + (s / 4294967296) * (4294967296 * P) = M + x * (Y + y * P) := by
  intro N' hN
  have h1 := mul_divmod s P
  have h2 : s * P = c * P + x * (y * P) + w * P := by rw [hs, Nat.add_mul, Nat.add_mul, Nat.mul_assoc]
  rw [Nat.mul_add]
  omega
theorem mul_carry {c x y w : Nat} (hc : c < 4294967296) (hx : x < 4294967296) (hy : y < 4294967296) (hw : w < 4294967296) : c + x * y + w < 18446744073709551616 := by
  have : x * y ≤ 4294967295 * 4294967295 := Nat.mul_le_mul (by omega) (by omega)
  omega
/-- Quotient and remainder. -/
theorem div_of {a b q r : Nat} (h : a = b * q + r) (hr : r < b) : a / b = q ∧ a % b = r := by
  subst h
  constructor
  · rw [Nat.mul_add_div (by omega), Nat.div_eq_of_lt hr, Nat.add_zero]
  · rw [Nat.mul_add_mod, Nat.mod_eq_of_lt hr]
theorem nv_drop_step {l : List Nat} {i : Nat} (h : i < l.length) : nv (l.drop i) = l.getD i 0 + 4294967296 * nv (l.drop (i + 1)) := by
  rw [List.drop_eq_getElem_cons h, nv_cons]
  simp [List.getD_eq_getElem?_getD, h]
theorem nv_drop_all {l : List Nat} {i : Nat} (h : l.length ≤ i) : nv (l.drop i) = 0 := by rw [List.drop_eq_nil_of_le h]; rfl
/-- A step of a division by one word. -/
theorem small_step {X Q b rest x cur : Nat} (h : X = b * Q + rest) (hr : rest < b) (hb : b < 4294967296) (hx : x < 4294967296) (hc : cur = rest * 4294967296 + x) :
    x + 4294967296 * X = b * (cur / b + 4294967296 * Q) + cur % b ∧ cur % b < b ∧ cur / b < 4294967296 ∧ cur < 18446744073709551616 := by
  have h1 := Nat.div_add_mod cur b
  have hcur : cur < b * 4294967296 := by
    have : (rest + 1) * 4294967296 ≤ b * 4294967296 := Nat.mul_le_mul_right _ hr
    omega
  have hbb : b * 4294967296 ≤ 4294967296 * 4294967296 := Nat.mul_le_mul_right _ (by omega)
  refine ⟨?_, Nat.mod_lt _ (by omega), Nat.div_lt_of_lt_mul hcur, by omega⟩
  rw [Nat.mul_add, show b * (4294967296 * Q) = 4294967296 * (b * Q) by rw [Nat.mul_left_comm]]
  subst h
  omega
/-- Shifting up by fewer than 32 bits. -/
theorem up_step {N X x n P w y : Nat} (hn : n < 32) (hN : N = X * 2 ^ n) (hy : y = x * 2 ^ n) (hw : w < 2 ^ n) : ∀ N', N' + w * P = N + (w ||| (y % 4294967296)) * P + (y / 4294967296) * (4294967296 * P) → (w ||| (y % 4294967296)) = w + y % 4294967296 ∧ N' = (X + x * P) * 2 ^ n := by
  have hor : (w ||| (y % 4294967296)) = w + y % 4294967296 := by
    have e : y % 4294967296 = 2 ^ n * (x % 2 ^ (32 - n)) := by
      rw [hy, show (4294967296 : Nat) = 2 ^ n * 2 ^ (32 - n) by rw [← Nat.pow_add, show n + (32 - n) = 32 by omega], Nat.mul_comm x, Nat.mul_mod_mul_left]
    rw [e, Nat.or_comm, ← Nat.two_pow_add_eq_or_of_lt hw]; omega
  intro N' h
  refine ⟨hor, ?_⟩
  rw [hor, Nat.add_mul] at h
  have h1 := mul_divmod y P
  have h2 : (X + x * P) * 2 ^ n = N + y * P := by rw [hN, hy, Nat.add_mul, Nat.mul_assoc, Nat.mul_assoc, Nat.mul_comm P]
  omega
theorem up_top {x n y : Nat} (hn : n < 32) (hx : x < 4294967296) (hy : y = x * 2 ^ n) : y < 18446744073709551616 ∧ y / 4294967296 < 2 ^ n := by
  have h2 : 2 ^ n ≤ 2 ^ 31 := Nat.pow_le_pow_right (by omega) (by omega)
  have h3 : y < 4294967296 * 2 ^ n := by rw [hy]; exact (Nat.mul_lt_mul_right (Nat.pow_pos (by omega))).2 hx
  exact ⟨by omega, Nat.div_lt_of_lt_mul h3⟩
/-- A word of a number shifted down. -/
theorem down_word {a : List Nat} (n i : Nat) (hn : n < 32) (hi : i < a.length) (hw : Wd a) : ((a.getD i 0 ||| a.getD (i + 1) 0 * 4294967296) / 2 ^ n) % 4294967296 = (nv a / 2 ^ n / 4294967296 ^ i) % 4294967296 := by
  have hor : (a.getD i 0 ||| a.getD (i + 1) 0 * 4294967296) = a.getD i 0 + 4294967296 * a.getD (i + 1) 0 := by
    rw [Nat.or_comm, Nat.mul_comm, show (4294967296 : Nat) = 2 ^ 32 by rfl, ← Nat.two_pow_add_eq_or_of_lt (by have := hw.getD i; omega)]; omega
  have e1 : nv a / 2 ^ n / 4294967296 ^ i = nv (a.drop i) / 2 ^ n := by
    rw [Nat.div_div_eq_div_mul, Nat.mul_comm, ← Nat.div_div_eq_div_mul, nv_split a i (Nat.le_of_lt hi), Nat.add_mul_div_left _ _ (Nat.pow_pos (by omega))]
    have := nv_lt (hw.take i)
    rw [List.length_take, Nat.min_eq_left (Nat.le_of_lt hi)] at this
    rw [Nat.div_eq_of_lt this, Nat.zero_add]
  rw [e1, hor, nv_drop_step hi]
  obtain ⟨z, hz⟩ : ∃ z, nv (a.drop (i + 1)) = a.getD (i + 1) 0 + 4294967296 * z := by
    by_cases h : i + 1 < a.length
    · exact ⟨_, nv_drop_step h⟩
    · refine ⟨0, ?_⟩
      rw [nv_drop_all (by omega)]
      simp [List.getD_eq_getElem?_getD, show a.length ≤ i + 1 by omega]
  rw [hz, Nat.mul_add, ← Nat.add_assoc]
  have e2 : 4294967296 * (4294967296 * z) = 2 ^ n * (4294967296 * (2 ^ (32 - n) * z)) := by
    rw [← Nat.mul_assoc, ← Nat.mul_assoc, Nat.mul_comm (2 ^ n) 4294967296, ← Nat.mul_assoc, Nat.mul_assoc 4294967296 (2 ^ n), ← Nat.pow_add, show n + (32 - n) = 32 by omega]
  rw [e2, Nat.add_mul_div_left _ _ (Nat.pow_pos (by omega)), Nat.add_mul_mod_self_left]
theorem mod_pow_succ (x i : Nat) : x % 4294967296 ^ (i + 1) = x % 4294967296 ^ i + (x / 4294967296 ^ i % 4294967296) * 4294967296 ^ i := by
  rw [Nat.pow_succ, Nat.mod_mul, Nat.mul_comm (4294967296 ^ i)]
end Go.Proofs.YtpaedhlacbpmpaaGreatDoor

/-
  Plain: the estimate of a digit of a quotient (long division of lists of words).
-/
namespace Go.Proofs.YtpaedhlacbpmpaaGreatDoor

/-- The leading words bound the digit from above. -/
theorem guess_ge {V W top head P : Nat} (hV : top * P ≤ V) (hW : W < (head + 1) * P) (ht : 0 < top) : W / V ≤ head / top := by
  rw [Nat.le_div_iff_mul_le ht]
  rcases Nat.eq_zero_or_pos V with rfl | hpos
  · simp
  have h1 : W / V * (top * P) ≤ W / V * V := Nat.mul_le_mul_left _ hV
  have h2 : W / V * V ≤ W := Nat.div_mul_le_self W V
  have h3 : W / V * top * P < (head + 1) * P := by rw [Nat.mul_assoc]; omega
  have h4 := Nat.lt_of_mul_lt_mul_right h3
  omega
/-- A guess that is too great for the leading words is too great. -/
theorem guess_dec {V W V2 head3 guess P : Nat} (hV : V2 * P ≤ V) (hW : W < (head3 + 1) * P) (hg : head3 < guess * V2) : W / V < guess := by
  rcases Nat.eq_zero_or_pos V with rfl | hpos
  · simp; rcases Nat.eq_zero_or_pos guess with rfl | h
    · simp at hg
    · exact h
  rw [Nat.div_lt_iff_lt_mul hpos]
  have h1 : guess * (V2 * P) ≤ guess * V := Nat.mul_le_mul_left _ hV
  have h2 : (head3 + 1) * P ≤ guess * V2 * P := Nat.mul_le_mul_right _ hg
  rw [Nat.mul_assoc] at h2
  omega
/-- A guess that fits the leading words is at most one too great. -/
theorem guess_le {V W V2 head3 guess P : Nat} (hV : V < (V2 + 1) * P) (hW : head3 * P ≤ W) (hg : guess * V2 ≤ head3) (hb : guess * P ≤ V) (hpos : 0 < V) : guess ≤ W / V + 1 := by
  have h1 : guess * V ≤ guess * ((V2 + 1) * P) := Nat.mul_le_mul_left _ (Nat.le_of_lt hV)
  have h2 : guess * V2 * P ≤ head3 * P := Nat.mul_le_mul_right _ hg
  have h3 : guess * ((V2 + 1) * P) = guess * V2 * P + guess * P := by rw [Nat.add_mul, Nat.one_mul, Nat.mul_add, Nat.mul_assoc]
  have h4 : guess * V ≤ W + V := by omega
  have h5 : guess ≤ (W + V) / V := (Nat.le_div_iff_mul_le hpos).2 h4
  rwa [Nat.add_div_right _ hpos] at h5
/-- What the test of the estimate says, and its step. -/
theorem est_step {head top next u2 guess rest : Nat} (h : guess * top + rest = head) (hg : 4294967296 ≤ guess ∨ rest * 4294967296 + u2 < guess * next) : head * 4294967296 + u2 < guess * (top * 4294967296 + next) ∨ 4294967296 ≤ guess := by
  rcases hg with hg | hg
  · exact .inr hg
  · refine .inl ?_
    subst h
    rw [Nat.mul_add, Nat.add_mul, ← Nat.mul_assoc, Nat.add_assoc]
    exact Nat.add_lt_add_left hg _
theorem est_done {head top next u2 guess rest : Nat} (h : guess * top + rest = head) (hg : guess * next ≤ rest * 4294967296 + u2) : guess * (top * 4294967296 + next) ≤ head * 4294967296 + u2 := by
  subst h
  rw [Nat.mul_add, Nat.add_mul, ← Nat.mul_assoc]
  omega
theorem est_break {head top next u2 guess rest : Nat} (h : guess * top + rest = head) (hr : 4294967296 ≤ rest) (hh : head < (top + 1) * 4294967296) (hn : next < 4294967296) (_ht : 0 < top) : guess < 4294967296 ∧ guess * (top * 4294967296 + next) ≤ head * 4294967296 + u2 := by
  have hg : guess < 4294967296 := by
    have h1 : guess * top < 4294967296 * top := by rw [Nat.add_mul] at hh; omega
    exact Nat.lt_of_mul_lt_mul_right h1
  refine ⟨hg, est_done h ?_⟩
  have h2 : guess * next ≤ 4294967296 * next := Nat.mul_le_mul_right _ (Nat.le_of_lt hg)
  omega
/-- A step of a subtraction of a multiple. -/
theorem take_step {O X Y x y n P b c s o b' : Nat} (h : O + n * Y = X + b * P + c * P) (hs : s = c + n * y) (ho : o + s % 4294967296 + b = x + b' * 4294967296) :
    (O + o * P) + n * (Y + y * P) = (X + x * P) + b' * (4294967296 * P) + (s / 4294967296) * (4294967296 * P) := by
  have h1 := mul_divmod s P
  have h2 : s * P = c * P + n * (y * P) := by rw [hs, Nat.add_mul, Nat.mul_assoc]
  have h3 : (o + s % 4294967296 + b) * P = (x + b' * 4294967296) * P := by rw [ho]
  rw [Nat.add_mul, Nat.add_mul, Nat.add_mul, Nat.mul_assoc] at h3
  rw [Nat.mul_add]
  omega
/-- The digit's end: what is left, if the guess was right or one too great. -/
theorem digit_end {V W guess U b M : Nat} (hpos : 0 < V) (hU : U + guess * V = W + b * M) (hUM : U < M) (_hVM : V ≤ M) (hb : b ≤ 1) (h1 : W / V ≤ guess) (h2 : guess ≤ W / V + 1) :
    (b = 0 → guess = W / V ∧ U = W % V) ∧ (b = 1 → guess = W / V + 1 ∧ U + V = W % V + M) := by
  have hd := Nat.div_add_mod W V
  have hm := Nat.mod_lt W hpos
  have e1 : (W / V) * V = V * (W / V) := Nat.mul_comm ..
  have e2 : (W / V + 1) * V = V * (W / V) + V := by rw [Nat.add_mul, Nat.one_mul, e1]
  constructor
  · intro h0
    subst h0
    have hg : guess = W / V := by
      rcases Nat.lt_or_ge (W / V) guess with h | h
      · have : guess = W / V + 1 := by omega
        rw [this, e2] at hU
        omega
      · omega
    refine ⟨hg, ?_⟩
    rw [hg, e1] at hU; omega
  · intro h0
    subst h0
    have hg : guess = W / V + 1 := by
      rcases Nat.lt_or_ge (W / V) guess with h | h
      · omega
      · have : guess = W / V := by omega
        rw [this, e1] at hU
        omega
    refine ⟨hg, ?_⟩
    rw [hg, e2] at hU; omega
/-- A step of the long division. -/
theorem long_step {U V R Q u0 : Nat} (h : U = V * Q + R) (x : Nat) (hx : x = u0 + 4294967296 * R) : u0 + 4294967296 * U = V * (x / V + 4294967296 * Q) + x % V := by
  have hd := Nat.div_add_mod x V
  rw [Nat.mul_add, show V * (4294967296 * Q) = 4294967296 * (V * Q) by rw [Nat.mul_left_comm]]
  subst h
  omega
/-- Quotient and remainder of numbers that are shifted. -/
theorem shift_div {a b q r n : Nat} (h : a * 2 ^ n = b * 2 ^ n * q + r) (hr : r < b * 2 ^ n) : a / b = q ∧ r / 2 ^ n = a % b := by
  have hp : 0 < 2 ^ n := Nat.pow_pos (by omega)
  obtain ⟨r', rfl⟩ : ∃ r', r = 2 ^ n * r' := by
    refine ⟨a - b * q, ?_⟩
    rw [Nat.mul_sub, Nat.mul_comm (2 ^ n) a, h, show 2 ^ n * (b * q) = b * 2 ^ n * q by rw [← Nat.mul_assoc, Nat.mul_comm (2 ^ n) b]]
    omega
  have h1 : a = b * q + r' := by
    have : 2 ^ n * a = 2 ^ n * (b * q + r') := by rw [Nat.mul_comm, h, Nat.mul_add, ← Nat.mul_assoc, Nat.mul_comm (2 ^ n) b]
    exact Nat.eq_of_mul_eq_mul_left hp this
  have h2 : r' < b := by rw [Nat.mul_comm b] at hr; exact Nat.lt_of_mul_lt_mul_left hr
  obtain ⟨h3, h4⟩ := div_of h1 h2
  exact ⟨h3, by rw [Nat.mul_div_cancel_left _ hp, h4]⟩
/-- The leading words of a list. -/
theorem top_words {l : List Nat} (hw : Wd l) {m : Nat} (hm : l.length = m + 2) : nv l = nv (l.take m) + 4294967296 ^ m * (l.getD m 0 + 4294967296 * l.getD (m + 1) 0) ∧ (l.getD m 0 + 4294967296 * l.getD (m + 1) 0) * 4294967296 ^ m ≤ nv l ∧ nv l < (l.getD m 0 + 4294967296 * l.getD (m + 1) 0 + 1) * 4294967296 ^ m := by
  have h1 := nv_split l m (by omega)
  rw [nv_drop_step (by omega), nv_drop_step (by omega), nv_drop_all (by omega)] at h1
  simp only [Nat.mul_zero, Nat.add_zero] at h1
  have h2 := nv_lt (hw.take m)
  rw [List.length_take, Nat.min_eq_left (by omega)] at h2
  refine ⟨h1, by rw [h1, Nat.mul_comm]; omega, ?_⟩
  rw [Nat.add_mul, Nat.one_mul, Nat.mul_comm _ (4294967296 ^ m)]
  omega
theorem top_word {l : List Nat} (hw : Wd l) {m : Nat} (hm : l.length = m + 1) : nv l = nv (l.take m) + 4294967296 ^ m * l.getD m 0 ∧ l.getD m 0 * 4294967296 ^ m ≤ nv l ∧ nv l < (l.getD m 0 + 1) * 4294967296 ^ m := by
  have h1 := nv_split l m (by omega)
  rw [nv_drop_step (by omega), nv_drop_all (by omega)] at h1
  simp only [Nat.mul_zero, Nat.add_zero] at h1
  have h2 := nv_lt (hw.take m)
  rw [List.length_take, Nat.min_eq_left (by omega)] at h2
  refine ⟨h1, by rw [h1, Nat.mul_comm]; omega, ?_⟩
  rw [Nat.add_mul, Nat.one_mul, Nat.mul_comm _ (4294967296 ^ m)]
  omega
end Go.Proofs.YtpaedhlacbpmpaaGreatDoor

/-
  Plain: fractions of words, and the rational number that each counts as.
-/
namespace Go.Proofs.YtpaedhlacbpmpaaGreatDoor

/-- A fraction: sign, numerator, denominator. -/
structure Rw where
  neg : Bool
  num : List Nat
  den : List Nat
deriving DecidableEq
instance : Inhabited Rw := ⟨⟨false, [], []⟩⟩
def Rw.Ok (r : Rw) : Prop := Wd r.num ∧ Wd r.den
def plainW (a : List Nat) : Bool := decide (0 < a.length) && (a.getD (a.length - 1) 0 != 0)
theorem plainW_iff {a : List Nat} : plainW a = true ↔ a ≠ [] ∧ Pl a := by
  unfold plainW Pl
  cases a with
  | nil => simp
  | cons x l =>
    simp only [List.length_cons, Nat.zero_lt_succ, decide_true, Bool.true_and, ne_eq, reduceCtorEq, not_false_eq_true, true_and, List.getD_eq_getElem?_getD]
    constructor
    · intro h _
      rw [List.getLast_eq_getElem]
      simpa using h
    · intro h
      have := h (by simp)
      rw [List.getLast_eq_getElem] at this
      simpa using this
def validR (r : Rw) : Bool := if r.num = [] ∧ r.den = [] then !r.neg else plainW r.num && plainW r.den && (Nat.gcd (nv r.num) (nv r.den) == 1)
def sg (neg : Bool) (n : Nat) : Int := if neg = true then -(n : Int) else n
theorem sg_abs (neg : Bool) (n : Nat) : (sg neg n).natAbs = n := by unfold sg; split <;> simp
theorem sg_zero (neg : Bool) : sg neg 0 = 0 := by unfold sg; split <;> simp
/-- As what a fraction counts: sign, numerator, denominator. -/
def partsR (r : Rw) : Bool × List Nat × List Nat := if validR r = true ∧ r.num ≠ [] then (r.neg, r.num, r.den) else (false, [], [1])
def ratOf (r : Rw) : Rat := mkRat (sg (partsR r).1 (nv (partsR r).2.1)) (nv (partsR r).2.2)
theorem nv_ne_zero {a : List Nat} (hw : Wd a) (h : plainW a = true) : nv a ≠ 0 := by
  obtain ⟨h1, h2⟩ := plainW_iff.1 h
  intro h3
  have := nw_nv hw h2
  rw [h3, nw_zero] at this
  exact h1 this.symm
theorem nw_plain {n : Nat} (h : n ≠ 0) : plainW (nw n) = true := plainW_iff.2 ⟨fun e => h (nw_eq_nil.1 e), nw_pl n⟩
theorem partsR_ok {r : Rw} (h : r.Ok) : Wd (partsR r).2.1 ∧ Wd (partsR r).2.2 ∧ nv (partsR r).2.2 ≠ 0 ∧ Pl (partsR r).2.1 ∧ Pl (partsR r).2.2 := by
  unfold partsR
  split
  · rename_i hv
    obtain ⟨hv, hn⟩ := hv
    unfold validR at hv
    rw [if_neg (fun e => hn e.1)] at hv
    simp only [Bool.and_eq_true] at hv
    exact ⟨h.1, h.2, nv_ne_zero h.2 hv.1.2, (plainW_iff.1 hv.1.1).2, (plainW_iff.1 hv.1.2).2⟩
  · exact ⟨Wd.nil, Wd.cons (by omega) Wd.nil, by simp [nv], fun h => absurd rfl h, fun _ => by simp⟩
/-- The words of a number. -/
def canR (q : Rat) : Rw := if q.num = 0 then ⟨false, [], []⟩ else ⟨decide (q.num < 0), nw q.num.natAbs, nw q.den⟩
def formR (neg : Bool) (n d : Nat) : Rw := if n = 0 then ⟨false, [], []⟩ else ⟨neg, nw (n / Nat.gcd n d), nw (d / Nat.gcd n d)⟩
theorem form_can (neg : Bool) (n d : Nat) (hd : d ≠ 0) : formR neg n d = canR (mkRat (sg neg n) d) := by
  unfold formR canR
  have e1 : (mkRat (sg neg n) d).num = sg neg n / (d.gcd n : Nat) := by rw [Rat.num_mkRat, if_neg hd, sg_abs]
  have e2 : (mkRat (sg neg n) d).den = d / Nat.gcd n d := by rw [Rat.den_mkRat, if_neg hd, sg_abs, Nat.gcd_comm]
  have hg : 0 < Nat.gcd n d := Nat.gcd_pos_of_pos_right _ (by omega)
  have hdv : Nat.gcd n d ∣ n := Nat.gcd_dvd_left ..
  have e3 : sg neg n / (d.gcd n : Nat) = sg neg (n / Nat.gcd n d) := by
    rw [Nat.gcd_comm]
    unfold sg
    split
    · rw [Int.neg_ediv_of_dvd (Int.natCast_dvd_natCast.2 hdv), ← Int.natCast_ediv]
    · rw [← Int.natCast_ediv]
  rw [e1, e2, e3]
  by_cases h0 : n = 0
  · subst h0
    simp [sg_zero]
  · have hne : n / Nat.gcd n d ≠ 0 := by
      have := Nat.div_pos (Nat.le_of_dvd (by omega) hdv) hg
      omega
    have h1 : sg neg (n / Nat.gcd n d) ≠ 0 := by unfold sg; split <;> omega
    rw [if_neg h0, if_neg h1, sg_abs]
    congr 1
    obtain ⟨m, hm⟩ : ∃ m, m = n / Nat.gcd n d := ⟨_, rfl⟩
    rw [← hm] at hne ⊢
    unfold sg
    cases neg with
    | true => simp; omega
    | false => simp
theorem canR_ok (q : Rat) : (canR q).Ok := by
  unfold canR
  split
  · exact ⟨Wd.nil, Wd.nil⟩
  · exact ⟨nw_wd _, nw_wd _⟩
theorem canR_valid (q : Rat) : validR (canR q) = true := by
  unfold canR
  split
  · rfl
  · rename_i h
    unfold validR
    rw [if_neg (fun e => by have := nw_eq_nil.1 e.1; omega)]
    rw [nw_plain (by omega), nw_plain q.den_nz, nv_nw, nv_nw]
    have := q.reduced
    unfold Nat.Coprime at this
    simp [this]
theorem ratOf_can (q : Rat) : ratOf (canR q) = q := by
  unfold ratOf partsR
  rw [canR_valid]
  unfold canR
  split
  · rename_i h
    simp only [ne_eq, not_true_eq_false, and_false, if_false]
    rw [nv_nil, sg_zero, Rat.zero_mkRat]
    exact (Rat.num_eq_zero.1 h).symm
  · rename_i h
    rw [if_pos ⟨rfl, fun e => by have := nw_eq_nil.1 e; omega⟩]
    simp only [nv_nw]
    have e : sg (decide (q.num < 0)) q.num.natAbs = q.num := by
      unfold sg
      by_cases h2 : q.num < 0
      · simp [h2]; omega
      · simp [h2]; omega
    rw [e, Rat.mkRat_self]
theorem can_ratOf {r : Rw} (hw : r.Ok) (h : validR r = true) : canR (ratOf r) = r := by
  obtain ⟨neg, num, den⟩ := r
  have hk := partsR_ok hw
  unfold ratOf
  unfold partsR at hk ⊢
  by_cases hn : num = []
  · subst hn
    unfold validR at h
    simp only [true_and] at h
    by_cases hd : den = []
    · subst hd
      rw [if_pos rfl] at h
      have : neg = false := by simpa using h
      subst this
      rw [if_neg (by simp)]
      simp only [nv_nil]
      rw [sg_zero, Rat.zero_mkRat]
      rfl
    · rw [if_neg hd] at h
      simp [plainW] at h
  · rw [if_pos ⟨h, hn⟩] at hk ⊢
    have hv := h
    unfold validR at hv
    rw [if_neg (fun e => hn e.1)] at hv
    simp only [Bool.and_eq_true, beq_iff_eq] at hv
    simp only at hk ⊢
    rw [← form_can _ _ _ hk.2.2.1]
    unfold formR
    rw [if_neg (nv_ne_zero hw.1 hv.1.1), hv.2, Nat.div_one, Nat.div_one, nw_nv hw.1 hk.2.2.2.1, nw_nv hw.2 hk.2.2.2.2]
/-- Sums, products and negatives of the numbers of fractions. -/
theorem sg_add (s : Bool) (a b : Nat) : sg s (a + b) = sg s a + sg s b := by unfold sg; split <;> omega
theorem sg_mul (s t : Bool) (a b : Nat) : sg (s != t) (a * b) = sg s a * sg t b := by
  unfold sg
  cases s <;> cases t <;> simp [Int.neg_mul, Int.mul_neg]
theorem sg_not (s : Bool) (a : Nat) : sg (!s) a = - sg s a := by unfold sg; cases s <;> simp
theorem sg_sub {s t : Bool} (h : s ≠ t) {a b : Nat} (hab : b ≤ a) : sg s (a - b) = sg s a + sg t b := by
  unfold sg
  cases s <;> cases t <;> simp at h ⊢ <;> omega
theorem sg_sub' {s t : Bool} (h : s ≠ t) {a b : Nat} (hab : a ≤ b) : sg t (b - a) = sg s a + sg t b := by
  unfold sg
  cases s <;> cases t <;> simp at h ⊢ <;> omega
theorem sg_scale (s : Bool) (a b : Nat) : sg s (a * b) = sg s a * (b : Int) := by unfold sg; split <;> simp [Int.neg_mul]
end Go.Proofs.YtpaedhlacbpmpaaGreatDoor
