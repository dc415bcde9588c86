import Derived.Test.YtngbjdaaogbjmaaGreatY11m
import Derived.Test.YtngbjdaaogbjmaaGreatTN8m
/-
  Walks: the cutter of truncate: settle.
-/
namespace Go.Proofs.YtngbjdaaogbjmaaGreat.Tr
open Go.RowKit
variable {y0 y1 y2 y4 : Value}
theorem settle_any (gl bk B : Nat) (kk : Int) (M F : List Nat) (mv fv : Value) (W : World) (hrow : RowAt W gl 107 [y0, y1, y2, .func (.func 39) #[] #[.pointer (some ⟨bk, 0, none⟩)], y4, mv, fv]) (hM : RwsAt W mv M) (hl : M.length ≤ 4096)
    (hF : OwnInts W B fv (ofN F)) (hF1 : F.length ≤ 1024) (hFm : ∀ t ∈ F, Mk t) (hbk : W.cell? ⟨bk, 0, none⟩ = some (.int .i64 kk)) (hgB : gl < B) (hB : B ≤ W.heap.size) :
    Calls Tryz.prog 77 #[.pointer (some ⟨gl, 0, none⟩)] W fun e w' => SPost y0 y1 y2 (.func (.func 39) #[] #[.pointer (some ⟨bk, 0, none⟩)]) mv fv gl (overP kk) M F W e w' :=
  settle_try gl bk B kk M F mv fv W hrow hM hl hF hF1 hFm hbk hgB hB fun B v L w h h2 => sortStable_any B v L w h h2
end Go.Proofs.YtngbjdaaogbjmaaGreat.Tr
