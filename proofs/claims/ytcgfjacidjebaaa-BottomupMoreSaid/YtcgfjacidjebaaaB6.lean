/-
  Walks: slices.Compact of a sorted row; family.sorted, minimal on masks.
-/
import Derived.Test.YtcgfjacidjebaaaB5
namespace Go.Proofs.Ytcgfjacidjebaaa
open Go.RowKit Go.Lib Go.Sort Go.Shelf

theorem compact_ofN (rs : List Nat) (hr : rs.Pairwise (fun a b => ltK a b ∨ a = b)) : Lib.compact (ofN rs) = ofN (sortK rs) := by
  have h := compact_sorted (α := Int) (fun a b => ltK a.toNat b.toNat) (fun a b c h1 h2 => ltK_tr _ _ _ h1 h2) (ofN rs).toArray (by
    intro i j hij hj
    have hj' : j < rs.length := by simpa using hj
    have hi' : i < rs.length := by omega
    have := List.pairwise_iff_getElem.1 hr i j hi' hj' hij
    simp only [ofN, List.getElem!_toArray, List.getElem!_eq_getElem?_getD, List.getElem?_map, List.getElem?_eq_getElem hj', List.getElem?_eq_getElem hi', Option.map_some, Option.getD_some, Int.toNat_natCast]
    rcases this with h | h
    · exact .inl h
    · exact .inr (by rw [h])) (ofN rs).length (by simp)
  show compactUpTo (ofN rs).toArray (ofN rs).length = _
  refine pair_unique (fun a b : Int => ltK a.toNat b.toNat) (fun a => ltK_irr _) (fun a b c h1 h2 => ltK_tr _ _ _ h1 h2) _ _ h.1 ?_ ?_
  · rw [List.pairwise_map]; simpa using pair_sortK rs
  · intro x
    rw [h.2]
    simp only [List.mem_map, mem_sortK]
    constructor
    · rintro ⟨j, hj, e⟩
      have hj' : j < rs.length := by simpa using hj
      refine ⟨rs[j], List.getElem_mem _, ?_⟩
      rw [← e]
      simp [hj']
    · rintro ⟨n, hn, rfl⟩
      obtain ⟨j, hj, e⟩ := List.getElem_of_mem hn
      exact ⟨j, by simpa using hj, by simp [hj, e]⟩

theorem compact_any (B : Nat) (v : Value) (ns : List Nat) (w : World) (hr : ns.Pairwise (fun a b => ltK a b ∨ a = b)) (hv : OwnInts w B v (ofN ns)) (hB : B ≤ w.heap.size) :
    Calls Try.prog 102 #[v] w fun e w' => ∃ v', e = .returned v' ∧ OwnInts w' B v' (ofN (sortK ns)) ∧ Below B w w' := by
  obtain ⟨hv1, hv2⟩ := hv
  by_cases h0 : ns = []
  · subst h0
    have hv3 := hv1
    obtain ⟨_, h2⟩ := hv1
    have : ∃ p c, v = .slice p 0 c := by
      rcases h2 with ⟨h2, _⟩ | ⟨g, cap, cur, h2, _⟩
      · exact ⟨_, _, h2⟩
      · exact ⟨_, cap, by simpa using h2⟩
    obtain ⟨p, c, rfl⟩ := this
    exact (Go.Proofs.Try.slices_Compact_int_empty p c w).mono fun e w' ⟨h3, h4⟩ => ⟨_, h3, by subst h4; exact ⟨hv3, by simp [sortK]⟩, by subst h4; exact Below.refl _ _⟩
  · obtain ⟨h1, h2⟩ := hv1
    rcases h2 with ⟨_, h2⟩ | ⟨g, cap, cur, rfl, hg, hh, hn, hcap, hsz, htk⟩
    · simp at h2; exact absurd h2 h0
    · have hH : Holds (Value.int .i64) w g 0 (ofN ns).toArray := by
        intro j hj
        have hj' : j < ns.length := by simpa using hj
        refine ⟨?_, by simp [World.frozen?, hh]⟩
        have e1 : (cur.toList.take ((ofN ns).length * 1))[j]? = ((ofN ns).map (Value.int .i64))[j]? := by rw [htk]
        rw [List.getElem?_take_of_lt (by simpa using hj')] at e1
        simp only [World.cell?, hh, Nat.zero_add]
        rw [show cur[j]? = cur.toList[j]? from by simp]
        simp only [Option.isSome_none, Bool.false_eq_true, if_false]
        rw [e1]
        simp [hj']
      have hS := Go.Proofs.Try.slices_Compact_int g 0 cap (ofN ns) w hH (by omega) hn
      refine hS.mono fun e w' ⟨h3, q, h4⟩ => ⟨_, h3, ?_, ?_⟩
      · clear hS h3
        subst h4
        have hlen := compact_length_le (ofN ns)
        obtain ⟨zs, hzs⟩ : ∃ zs, zs = (Lib.compact (ofN ns) ++ List.replicate ((ofN ns).length - (Lib.compact (ofN ns)).length) 0).toArray := ⟨_, rfl⟩
        rw [← hzs]
        have hzl : zs.size = (ofN ns).length := by rw [hzs]; simp at hlen ⊢; omega
        have hg1 := heap_putRow (Value.int .i64) w q g 0 zs hh
        have hps := putCells_take (Value.int .i64) zs cur (ofN ns).length hzl (by rw [hsz]; omega)
        rw [compact_ofN ns hr] at hzs hlen ⊢
        refine ⟨⟨by simp, .inr ⟨g, cap, putCells (Value.int .i64) 0 zs cur, rfl, hg, hg1, by omega, hcap, by rw [hps.1]; exact hsz, ?_⟩⟩, by omega⟩
        have e2 := congrArg (List.take (ofN (sortK ns)).length) hps.2
        rw [List.take_take, Nat.min_eq_left hlen] at e2
        rw [Nat.mul_one, e2, hzs]
        simp
      · subst h4
        refine ⟨rfl, rfl, rfl, ?_, fun k hk => heap_putRow_ne _ w q g 0 k _ (by omega)⟩
        show w.heap.size ≤ (w.heap.modify g _).size
        simp

set_option maxHeartbeats 400000 in
theorem sorted_any (v : Value) (ns : List Nat) (w : World) (hm : ∀ n ∈ ns, Mk n) (hv : IntsAt w v (ofN ns)) (hl : ns.length ≤ 17592186044416) :
    Calls Try.prog 75 #[v] w fun e w' => ∃ v', e = .returned v' ∧ OwnInts w' w.heap.size v' (ofN (sortK ns)) ∧ Kept w w' := by
  have H1 := Lib.hid (clone_any v _ w hv (by simpa using hl))
  have HM := Lib.hid hm
  clear hv hm hl
  go_enter Try.func75, Try.ntmps75
  go_wp2_with (first
    | (go_at_call 101; refine H1.out.mono ?_; rintro e w1 ⟨v1, rfl, ho1, hk1⟩; have hs1 := hk1.size; have O1 := Lib.hid ho1; clear ho1)
    | (go_at_call 64; refine (sort_any w.heap.size v1 ns w1 HM.out O1.out hs1).mono ?_; rintro e w2 ⟨rfl, rs, hr1, hr2, hr3, hr4, ho2, hb2⟩; have O2 := Lib.hid ho2; have R3 := Lib.hid hr3; have R4 := Lib.hid hr4; clear ho2 hr1 hr2 hr3 hr4)
    | (go_at_call 102; refine (compact_any w.heap.size v1 rs w2 R3.out O2.out (Nat.le_trans hs1 hb2.size)).mono ?_; rintro e w3 ⟨v3, rfl, ho3, hb3⟩))
  go_ret
  refine ⟨_, rfl, ?_, (hk1.app hb2).app hb3⟩
  have e : sortK rs = sortK ns := sortK_congr ns rs R4.out
  rw [e] at ho3
  exact ho3

/-- a is a part of b. -/
def subN (a b : Nat) : Bool := sdiff a b == 0
theorem subB_subN {a b : Nat} (ha : Mk a) (hb : Mk b) : subB (a : Int) (b : Int) = subN a b := by
  unfold subB subN
  rw [cut_mk ha, andNot_i64 a b (by unfold Mk at ha; omega) (by unfold Mk at hb; omega)]
  rw [Bool.eq_iff_iff]; simp
def keepN (out : List Nat) (s : Nat) : List Nat := if out.any (fun t => subN t s) then out else out ++ [s]
def minN (l : List Nat) : List Nat := l.foldl keepN []
theorem mem_minN (l : List Nat) : ∀ out x, x ∈ l.foldl keepN out → x ∈ out ∨ x ∈ l := by
  induction l with
  | nil => intro out x h; exact .inl h
  | cons s l ih =>
    intro out x h
    rcases ih _ x h with h | h
    · unfold keepN at h
      split at h
      · exact .inl h
      · rcases List.mem_append.1 h with h | h
        · exact .inl h
        · simp at h; subst h; exact .inr (List.mem_cons_self ..)
    · exact .inr (List.mem_cons_of_mem _ h)
theorem minOf_ofN (l : List Nat) (hl : ∀ n ∈ l, Mk n) : minOf (ofN l) = ofN (minN l) := by
  have key : ∀ (l : List Nat) (out : List Nat), (∀ n ∈ l, Mk n) → (∀ n ∈ out, Mk n) → (ofN l).foldl keepMin (ofN out) = ofN (l.foldl keepN out) := by
    intro l
    induction l with
    | nil => intro out _ _; rfl
    | cons s l ih =>
      intro out h1 h2
      have hs : Mk s := h1 s (List.mem_cons_self ..)
      have e : keepMin (ofN out) (s : Int) = ofN (keepN out s) := by
        unfold keepMin keepN
        have e1 : (ofN out).any (fun t => subB t s) = out.any (fun t => subN t s) := by
          rw [List.any_map]
          rw [Bool.eq_iff_iff, List.any_eq_true, List.any_eq_true]
          constructor
          · rintro ⟨x, hx, h⟩; exact ⟨x, hx, by rw [← subB_subN (h2 x hx) hs]; exact h⟩
          · rintro ⟨x, hx, h⟩; exact ⟨x, hx, by simp only [Function.comp]; rw [subB_subN (h2 x hx) hs]; exact h⟩
        rw [e1]
        split
        · rfl
        · simp
      have h3 := ih (keepN out s) (fun n hn => h1 n (List.mem_cons_of_mem _ hn)) (fun n hn => by
        unfold keepN at hn
        split at hn
        · exact h2 n hn
        · rcases List.mem_append.1 hn with h | h
          · exact h2 n h
          · simp at h; subst h; exact hs)
      show (ofN l).foldl keepMin (keepMin (ofN out) (s : Int)) = _
      rw [e, h3]; rfl
  exact key l [] hl (by simp)
/-- The minimal sets of a list, sorted. -/
def minK (l : List Nat) : List Nat := minN (sortK l)
theorem mem_minK {l : List Nat} {x : Nat} (h : x ∈ minK l) : x ∈ l := by
  rcases mem_minN _ _ _ h with h | h
  · simp at h
  · exact (mem_sortK _ _).1 h
theorem minK_congr (l r : List Nat) (hm : ∀ x, x ∈ r ↔ x ∈ l) : minK r = minK l := by unfold minK; rw [sortK_congr l r hm]
theorem len_minN (l : List Nat) : ∀ out, (l.foldl keepN out).length ≤ out.length + l.length := by
  induction l with
  | nil => intro out; simp
  | cons s l ih =>
    intro out
    refine Nat.le_trans (ih _) ?_
    unfold keepN
    split <;> simp <;> omega
theorem len_minK (l : List Nat) : (minK l).length ≤ l.length := by
  have h1 := len_minN (sortK l) []
  have h2 := len_sortK l
  simp at h1
  unfold minK minN; omega
theorem minimalK_any (v : Value) (ns : List Nat) (w : World) (hm : ∀ n ∈ ns, Mk n) (hv : IntsAt w v (ofN ns)) (hl : ns.length ≤ 8796093022208) :
    Calls Try.prog 62 #[v] w fun e w' => ∃ v', e = .returned v' ∧ OwnInts w' w.heap.size v' (ofN (minK ns)) ∧ Kept w w' := by
  have hlen := len_sortK ns
  refine (minimal_any v w (ofN (sortK ns)) (by simp; omega) ?_).mono fun e w' ⟨v', h1, h2, h3⟩ => ⟨v', h1, ?_, h3⟩
  · exact (sorted_any v ns w hm hv (by omega)).mono fun e w' ⟨v', h1, h2, h3⟩ => ⟨v', h1, h2.ints, h3⟩
  · rw [minOf_ofN _ fun n hn => hm n ((mem_sortK _ _).1 hn)] at h2
    exact h2
end Go.Proofs.Ytcgfjacidjebaaa
