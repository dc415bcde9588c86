import Derived.Test.YtiplibgnfcdlkaaQZI4
import Derived.Test.YtiplibgnfcdlkaaQZI5
/-
  The join's laws at families; three boxes; the reference's count.
-/
namespace Go.Proofs.Ytiplibgnfcdlkaa
open Go.RowKit

theorem zfrom_join {F G : Nat → Bool} {v : Nat} (h : ZFrom v F) (k : ZFrom v G) : ZFrom v (zjoin F G) := fun s hs j hj => by
  obtain ⟨t, u, ht, hu, rfl⟩ := zjoin_iff.1 hs
  rw [Nat.testBit_or] at hj
  rcases Bool.or_eq_true_iff.1 hj with e | e
  · exact h t ht j e
  · exact k u hu j e
theorem zjoin_comm (F G : Nat → Bool) : zjoin F G = zjoin G F := by
  funext s
  rw [Bool.eq_iff_iff, zjoin_iff, zjoin_iff]
  constructor
  · rintro ⟨t, u, h1, h2, h3⟩; exact ⟨u, t, h2, h1, by rw [Nat.or_comm]; exact h3⟩
  · rintro ⟨t, u, h1, h2, h3⟩; exact ⟨u, t, h2, h1, by rw [Nat.or_comm]; exact h3⟩
theorem zjoin_dist (F G H : Nat → Bool) : (fun s => or (zjoin F G s) (zjoin F H s)) = zjoin F (fun s => or (G s) (H s)) := by
  funext s
  rw [Bool.eq_iff_iff, Bool.or_eq_true_iff, zjoin_iff, zjoin_iff, zjoin_iff]
  constructor
  · rintro (⟨t, u, h1, h2, h3⟩ | ⟨t, u, h1, h2, h3⟩)
    · exact ⟨t, u, h1, Bool.or_eq_true_iff.2 (.inl h2), h3⟩
    · exact ⟨t, u, h1, Bool.or_eq_true_iff.2 (.inr h2), h3⟩
  · rintro ⟨t, u, h1, h2, h3⟩
    rcases Bool.or_eq_true_iff.1 h2 with e | e
    · exact .inl ⟨t, u, h1, e, h3⟩
    · exact .inr ⟨t, u, h1, e, h3⟩
/-- The family of the empty set. -/
def zun : Nat → Bool := fun s => s == 0
theorem zun_from : ZFrom 0 zun := fun s hs j hj => by
  obtain rfl := beq_iff_eq.1 hs
  simp at hj
theorem zjoin_un (F : Nat → Bool) : zjoin F zun = F := by
  funext s
  rw [Bool.eq_iff_iff, zjoin_iff]
  constructor
  · rintro ⟨t, u, h1, h2, h3⟩
    obtain rfl := beq_iff_eq.1 h2
    rw [Nat.or_zero] at h3
    subst h3
    exact h1
  · intro h
    exact ⟨s, 0, h, rfl, Nat.or_zero s⟩
theorem zcan_un : zcan zun = ([], 1) := by
  rw [zcan_eq]
  have e : zun = zm [] 1 := funext fun s => (zm_one [] s).symm
  rw [e]
  exact zadd_old zgood_nil 24 (Nat.le_refl _) 1 (by simp) (Nat.zero_le _)
theorem zdia_un (w : World) : ZDia w (.agg #[.slice none 0 0, .int .i64 1]) zun := by
  unfold ZDia
  rw [zcan_un]
  exact ⟨_, rfl, DnsAt.nil w⟩
theorem zcard_un : zcard zun = 1 := (zcard_list (l := [0]) zun_from (by simp) fun s => by simp [zun]).symm
theorem pairs_len (f : Nat → Nat → Nat) (l m : List Nat) : (l.flatMap fun t => m.map (f t)).length = l.length * m.length := by
  induction l with
  | nil => simp
  | cons a l ih => rw [List.flatMap_cons, List.length_append, ih, List.length_map, List.length_cons, Nat.succ_mul, Nat.add_comm]
theorem zcard_join {F G : Nat → Bool} (hF : ZFrom 0 F) (hG : ZFrom 0 G) : zcard (zjoin F G) ≤ zcard F * zcard G := by
  have := zcard_le (l := (zls F).flatMap fun t => (zls G).map fun u => t ||| u) (zfrom_join hF hG) fun s hs => by
    obtain ⟨t, u, ht, hu, rfl⟩ := zjoin_iff.1 hs
    exact List.mem_flatMap.2 ⟨t, (zls_mem hF t).2 ht, List.mem_map.2 ⟨u, (zls_mem hG u).2 hu, rfl⟩⟩
  rw [pairs_len] at this
  exact this
theorem ZFv.of4 {F : Nat → Bool} (h : ZFrom 0 F) (hc : zcard F ≤ 400) : ZFv F := ⟨h, zcan_len400 h hc⟩
theorem rcount_in {v : Value} {F : Nat → Bool} {w : World} (h : ZIn w v 0 F) : Calls Try.prog 29 #[v] w fun e w' => e = .returned (.int .i64 (zcard F : Nat)) ∧ Kept w w' := by
  obtain ⟨L, r, hz, _, hok⟩ := h.parts
  obtain ⟨N, q, hg, h5, rfl, hq, h7, hct⟩ := hok rfl
  rw [← hct]
  refine zrcount_any hg _ q w ?_ h7 hq
  rw [← h5]; exact hz
/-- The boxes of three arguments. -/
theorem boxA3 {W w1 : World} {a b d : Option Addr} {n cp m cq l cr : Nat} {r s t : Int} (h : w1 = ((W.alloc (.cells #[.slice a n cp, .int .i64 r] 24)).alloc (.cells #[.slice b m cq, .int .i64 s] 24)).alloc (.cells #[.slice d l cr, .int .i64 t] 24)) :
    Kept W w1 ∧ (w1.cell? ⟨W.heap.size, 0, none⟩ = some (.slice a n cp) ∧ w1.cell? ⟨W.heap.size, 1, none⟩ = some (.int .i64 r)) ∧ (w1.cell? ⟨W.heap.size + 1, 0, none⟩ = some (.slice b m cq) ∧ w1.cell? ⟨W.heap.size + 1, 1, none⟩ = some (.int .i64 s)) ∧ w1.cell? ⟨W.heap.size + 2, 0, none⟩ = some (.slice d l cr) ∧ w1.cell? ⟨W.heap.size + 2, 1, none⟩ = some (.int .i64 t) := by
  obtain ⟨w0, hw0⟩ : ∃ w0, w0 = (W.alloc (.cells #[.slice a n cp, .int .i64 r] 24)).alloc (.cells #[.slice b m cq, .int .i64 s] 24) := ⟨_, rfl⟩
  obtain ⟨hk, ⟨x0, x1⟩, x2, x3⟩ := boxA2 hw0
  rw [← hw0] at h
  have hk2 : Kept w0 w1 := by rw [h]; exact (Kept.refl _).alloc _
  have hy : RowAt w1 w0.heap.size 24 [.slice d l cr, .int .i64 t] := by rw [h]; exact RowAt.made _ #[.slice d l cr, .int .i64 t] 24
  have d0 := hy.cell (i := 0) (by simp)
  have d1 := hy.cell (i := 1) (by simp)
  have e : w0.heap.size = W.heap.size + 2 := by rw [hw0, World.size_alloc, World.size_alloc]
  rw [e] at d0 d1
  exact ⟨hk.trans hk2, ⟨hk2.cell x0, hk2.cell x1⟩, ⟨hk2.cell x2, hk2.cell x3⟩, by simpa using d0, by simpa using d1⟩
end Go.Proofs.Ytiplibgnfcdlkaa
