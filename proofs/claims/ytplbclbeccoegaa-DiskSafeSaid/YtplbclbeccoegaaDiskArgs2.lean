/-
  An argument that is a row of ints, opened.
-/
import Derived.Test.YtplbclbeccoegaaDiskArgs
namespace Go.Proofs.Ytplbclbeccoegaa
open Go.ChangeShapes Go.WideShapes Go.Deep Go.RowKit
theorem open_i64s {H : Type} {enc : TypeId × Value → H} {P : Program} {w : World} {base : Nat} {spare : Nat → Bool} {held : Bool} {r : Reach} {b0 : Nat} {t e : TypeId} {v : Value} {d : DataW H} {ps : List MemPlace} (ht : P.underlying t = some (.slice e)) (he : P.underlying e = some (.int .i64)) (hc : P.cellsOf e = 1) (hby : 1 ≤ P.bytesOf e)
    (hv : Value.okWide P w r b0 t v) (h : DataW.Trod enc P w base spare held t v d ps) :
    ∃ (A : Option Addr) (c : Nat) (l : List Int), v = .slice A l.length c ∧ Reads w w.heap.size 1 A l.length (i64s l) ∧ (∀ v ∈ l, -9223372036854775808 ≤ v ∧ v ≤ 9223372036854775807) ∧ ∀ R, (∀ k ∈ d.weights P t, k ≤ R) → l.length ≤ R := by
  obtain ⟨A, len, cap, rfl⟩ := okWide_slice ht hv
  obtain ⟨fuel, hf⟩ := h
  obtain ⟨A', l, c, e1, _, _, hvl, hr, hs⟩ := open_i64row ht he hc hby hf
  exact ⟨A', c, l, e1, hr, hvl, hs⟩
end Go.Proofs.Ytplbclbeccoegaa
