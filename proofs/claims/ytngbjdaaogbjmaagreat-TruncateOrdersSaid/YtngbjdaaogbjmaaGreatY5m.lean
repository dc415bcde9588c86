import Derived.Test.YtngbjdaaogbjmaaGreatY4m
import Derived.Test.YtngbjdaaogbjmaaGreatTV3m
import Derived.Deep.AppendLies
import Derived.Deep.RegionLaw
/-
  Walks: the cutter of truncate: emit. (Turned by conv5.py.)
-/
namespace Go.Proofs.YtngbjdaaogbjmaaGreat.Tr
open Go.RowKit
variable {y0 y1 y2 y3 y4 y6 : Value}

/-- The cutter: its cells, the rows made. -/
def CutAt (y0 y1 y2 y3 y4 y6 : Value) (w : World) (gl B : Nat) (v : Value) (L : List Nat) : Prop := RowAt w gl 107 [y0, y1, y2, y3, y4, v, y6] ∧ OwnRws w B v L
theorem OwnRws.own_ge {w : World} {B : Nat} {v : Value} {L : List Nat} (h : OwnRws w B v L) {g : Nat} (hg : v.ownBlock = some g) : B ≤ g ∧ g < w.heap.size := h.1.lt g hg
theorem frm_below {gl B : Nat} {v v' : Value} {w w' : World} {L : List Nat} (h : Frm gl v v' w w') (hv : OwnRws w B v L) (hB : B ≤ gl) (hl : B ≤ w.heap.size) : Below B w w' :=
  ⟨h.os, h.tape, h.output, h.size, fun k hk => h.block k (by omega) (by omega) fun e => by have := (hv.own_ge e.symm).1; omega⟩
theorem list_apart {w : World} {gl B : Nat} {v : Value} {L : List Nat} {cs : List Value} (h : OwnRws w B v L) (hx : RowAt w gl 107 cs) : some gl ≠ v.ownBlock := by
  obtain ⟨⟨_, h2⟩, _⟩ := h
  obtain ⟨cur, hx1, _⟩ := hx
  intro e
  rcases h2 with ⟨rfl, _⟩ | ⟨g, cap, cur2, rfl, _, h7, _⟩
  · cases e
  · have : gl = g := by simpa [Value.ownBlock] using e
    subst this
    rw [hx1] at h7
    injection h7 with h7
    injection h7 with _ h8 _
    exact absurd h8 (by decide)
theorem OwnRws.store_other {w : World} {B g : Nat} {v : Value} {L : List Nat} (h : OwnRws w B v L) (hg : some g ≠ v.ownBlock) (i : Nat) (u : Value) : OwnRws (w.setCell ⟨g, i, none⟩ u) B v L := by
  obtain ⟨⟨h1, h2⟩, h3⟩ := h
  refine ⟨⟨h1, h2.imp id ?_⟩, h3⟩
  rintro ⟨b, cap, cur, rfl, h5, h6, h7⟩
  refine ⟨b, cap, cur, rfl, h5, ?_, h7⟩
  have hne : b ≠ g := fun e => hg (by simp [Value.ownBlock, e])
  exact (Below.heap_setCell w ⟨g, i, none⟩ u b hne).trans h6
theorem emit_step {W w5 : World} {gl B n cap gg c : Nat} {L : List Nat} {v : Value} {C O : Obj} (hr : RowAt W gl 107 [y0, y1, y2, y3, y4, v, y6]) (hv : OwnRws W B v L) (hB : B ≤ gl) (hc : RowLt 152 c) (hl : L.length ≤ 4097) (hn : n = L.length)
    (hown : w5.ownsRow B 109 3 (.slice (some ⟨gg, 0, none⟩) (n + 1) cap) (n + 1) (L.flatMap rcells ++ rcells c)) (hg : ((W.alloc C).alloc O).drew.grownBy w5 v.ownBlock) (hat : v.ownBlock = some gg ∨ gg = W.heap.size + 1 + 1) :
    CutAt y0 y1 y2 y3 y4 y6 (w5.setCell ⟨gl, 5, none⟩ (.slice (some ⟨gg, 0, none⟩) (n + 1) cap)) gl B (.slice (some ⟨gg, 0, none⟩) (n + 1) cap) (L ++ [c]) ∧ Frm gl v (.slice (some ⟨gg, 0, none⟩) (n + 1) cap) W (w5.setCell ⟨gl, 5, none⟩ (.slice (some ⟨gg, 0, none⟩) (n + 1) cap)) := by
  have hgl := hr.lt
  have k1 : Kept W ((W.alloc C).alloc O).drew := (((Kept.refl W).alloc C).alloc O).drew
  have hb : w5.heap[gl]? = W.heap[gl]? := (hg.block gl (by simp; omega) (list_apart hv hr)).trans (k1.block gl hgl)
  have hr5 := hr.same hb
  have hv5 : OwnRws w5 B (.slice (some ⟨gg, 0, none⟩) (n + 1) cap) (L ++ [c]) := by
    refine ⟨by rw [List.flatMap_append, List.flatMap_cons, List.flatMap_nil, List.append_nil, List.length_append, List.length_singleton, ← hn]; exact hown, by simp; omega, fun x hx => ?_⟩
    rcases List.mem_append.1 hx with hx | hx
    · exact hv.2.2 x hx
    · simp at hx; subst hx; exact hc
  have hne5 := list_apart hv5 hr5
  refine ⟨⟨?_, hv5.store_other hne5 5 _⟩, ?_⟩
  · have := hr5.store 5 (.slice (some ⟨gg, 0, none⟩) (n + 1) cap)
    simpa using this
  · have h2 : Below B ((W.alloc C).alloc O).drew w5 := grown_below hg (hv.kept k1).1 (by simp; omega)
    have h3 : Below B W (w5.setCell ⟨gl, 5, none⟩ (.slice (some ⟨gg, 0, none⟩) (n + 1) cap)) := Below.setCell ((k1.mono (by omega)).trans h2) hB _
    refine ⟨h3.os, h3.tape, h3.output, h3.size, fun k hk e1 e2 => ?_, ?_⟩
    · exact (Below.heap_setCell w5 ⟨gl, 5, none⟩ _ k e1).trans ((hg.block k (by simp; omega) e2).trans (k1.block k hk))
    · rcases hat with h | h
      · exact .inl h.symm
      · refine .inr fun g hg' => ?_
        have : gg = g := by simpa [Value.ownBlock] using hg'
        omega
set_option maxRecDepth 100000 in
set_option maxHeartbeats 4000000 in
theorem emit_any (gl B c : Nat) (v : Value) (L : List Nat) (W : World) (hL : CutAt y0 y1 y2 y3 y4 y6 W gl B v L) (hc : RowLt 152 c) (hl : L.length ≤ 4097) (hB : B ≤ gl) :
    Calls Tryz.prog 81 #[.pointer (some ⟨gl, 0, none⟩), rowV c] W fun e w' => e = .returned (.tuple #[]) ∧ ∃ v', CutAt y0 y1 y2 y3 y4 y6 w' gl B v' (addK L c) ∧ Frm gl v v' W w' := by
  obtain ⟨hr, hv⟩ := hL
  have hgl := hr.lt
  have c0 := hr.cell (i := 5) (by simp)
  have f0 := hr.free 5
  simp only [List.getElem_cons_succ, List.getElem_cons_zero] at c0
  have hne := list_apart hv hr
  obtain ⟨a, cp, hv2⟩ := hv.at.shape
  obtain ⟨n, hn⟩ : ∃ n, n = L.length := ⟨_, rfl⟩
  unfold addK
  rw [← hn] at hv2 hl ⊢
  subst hv2
  have HR := Lib.hid hr
  have HV := Lib.hid hv
  have HNE := Lib.hid hne
  have HN := Lib.hid hn
  unfold rowV
  have HC : Hid (RowLt 152 c) := hc
  have HCC : Hid (rcells c = [.int .i64 (evW c), .int .u64 (loW c), .int .u64 (hiW c)]) := rfl
  generalize evW c = x0 at *
  generalize loW c = x1 at *
  generalize hiW c = x2 at *
  clear hr hv hne hn hc
  by_cases h : n ≤ 4096
  · rw [if_pos h]
    have h' : (n : Int) ≤ 4096 := by omega
    obtain ⟨i0, hi0, hz0, hz1, hz2⟩ := info_parts info_trow
    have I0 := Lib.hid hi0
    have I1 := Lib.hid hz0
    have I2 := Lib.hid hz1
    have I3 := Lib.hid hz2
    clear hi0 hz0 hz1 hz2 h
    have HO2 : Hid (∀ C O, (((W.alloc C).alloc O).drew).ownsRow B 109 3 (.slice a n cp) n (L.flatMap rcells)) := Lib.hid fun C O => by
      have h := (HV.out.kept ((((Kept.refl W).alloc C).alloc O).drew)).1
      rw [← HN.out] at h; exact h
    have cA : ∀ C, (W.alloc C).drew.cell? ⟨gl, 5, none⟩ = some (.slice a n cp) := fun C => (((Kept.refl W).alloc C).drew).cell c0
    have cB : ∀ C O, ((W.alloc C).alloc O).drew.cell? ⟨gl, 5, none⟩ = some (.slice a n cp) := fun C O => ((((Kept.refl W).alloc C).alloc O).drew).cell c0
    go_enter Tryz.func81, Tryz.ntmps81
    go_wp2
    go_region_law ((refine step_append_lies _ (by rfl) _ _ _ (by rfl) B 109 i0 _ 3 24 Tryz.underlying105 I0.out I1.out I2.out I3.out rfl (by omega) (.slice a n cp) n _ (by rfl) (HO2.out _ _) ⟨W.heap.size + 1, 0, none⟩ 1 1 [.int .i64 x0, .int .u64 x1, .int .u64 x2] (by rfl) (by rfl) (World.news_of_block (cs := #[.int .i64 x0, .int .u64 x1, .int .u64 x2]) (t := 109) (fr := (0, 0)) (heap_new2d W _ _)) (by simp [Value.oneCell']) (by omega) (by unfold maxLen; omega) (by omega) (by simp; omega) (W.heap.size + 1 + 1) (by simp) ?_; intro gg cap w5 hown5 hgrow hat hlt5; have st5 := hgrow.cell (a := ⟨gl, 5, none⟩) (v := .slice a n cp) (cB _ _) HNE.out; have sf5 := (World.frozen?_of_block (a := ⟨gl, 5, none⟩) (hgrow.block gl (by simp; omega) HNE.out)).trans ((Below.frozen ((((Kept.refl W).alloc _).alloc _).drew) (p := ⟨gl, 5, none⟩) (by simp; omega)).trans f0)))
    all_goals go_wp2
    all_goals
     have hs := emit_step HR.out HV.out hB HC.out (by have := HN.out; omega) HN.out (c := c) (by rw [HCC.out]; exact hown5) hgrow hat
     go_end0
     exact ⟨rfl, _, hs⟩
  · rw [if_neg h]
    have h' : ¬ (n : Int) ≤ 4096 := by omega
    go_enter Tryz.func81, Tryz.ntmps81
    go_wp2
    go_end0
    exact ⟨rfl, _, ⟨HR.out.kept ((Kept.refl _).alloc _), HV.out.kept ((Kept.refl _).alloc _)⟩, Frm.of_kept ((Kept.refl _).alloc _)⟩
end Go.Proofs.YtngbjdaaogbjmaaGreat.Tr
