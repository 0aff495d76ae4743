/-
  Arguments that are an index, opened.
-/
import Derived.Test.YtljclehhicmkhaaDoorFlagsArgs
import Derived.Test.YtljclehhicmkhaaDoorWritesW
namespace Go.Proofs.YtljclehhicmkhaaDoor
open Go.RowKit
section
variable {H : Type} {enc : TypeId × Value → H} {w : World}
theorem open_ents {c1 : Value} (h : Fits enc Tryd.prog w 49 [c1]) : ∃ (A : Option Addr) (c : Nat) (l : List MarkM), c1 = .slice A l.length c ∧ l.length ≤ c ∧ c ≤ maxLen ∧ (∀ q ∈ l, q.1 < 4294967296) ∧ Reads w w.heap.size 2 A l.length (mcells l) := by
  have hk : Tryd.prog.cellsOf 53 = 2 := by kernel_rfl
  obtain ⟨A, n, c, L, hcs, hn, hc, hl, hL, hr⟩ := fits_slice h Tryd.underlying49 (by rw [hk]; omega)
  rw [hk] at hr
  obtain ⟨l, rfl, hq⟩ := choose_list (f := mcell) (Q := fun q => q.1 < 4294967296) fun x hx => by
    obtain ⟨hx1, hx2⟩ := hL x hx
    obtain ⟨hx3, hx4⟩ := fits_fields hx2 Tryd.underlying53 (by kernel_rfl) (by kernel_rfl)
    rw [hk] at hx1
    obtain ⟨a, b, rfl⟩ : ∃ a b, x = [a, b] := by
      match x, hx1 with
      | [a, b], _ => exact ⟨a, b, rfl⟩
    obtain ⟨u, e0, hu⟩ := fits_int (hx4 0 _ a rfl rfl) Tryd.underlying36
    obtain ⟨f, e1, _⟩ := fits_int (hx4 1 _ b rfl rfl) Tryd.underlying3
    obtain ⟨k, rfl, hk⟩ := u32_range hu
    simp only [List.cons.injEq, and_true] at e0 e1
    subst e0 e1
    exact ⟨(k, f), rfl, hk⟩
  rw [List.length_map] at hl
  rw [map_flat] at hr
  subst hl
  simp only [List.cons.injEq, and_true] at hcs
  exact ⟨A, c, l, hcs, hn, hc, hq, hr⟩
theorem array5 {α : Type} {cs : Array α} (h : cs.toList.length = 5) : ∃ a b c d e, cs = #[a, b, c, d, e] := by
  obtain ⟨l⟩ := cs
  match l, h with
  | [a, b, c, d, e], _ => exact ⟨a, b, c, d, e, rfl⟩
theorem open_index {cs : Array Value} (h : Fits enc Tryd.prog w 51 cs.toList) : ∃ (nm : ByteArray) (e nx : Nat) (u : Int) (A : Option Addr) (c : Nat) (l : List MarkM), cs = #[.string nm, .int .u32 (e : Nat), .int .u32 (nx : Nat), .int .i64 u, .slice A l.length c] ∧ nm.size ≤ maxLen ∧ e < 4294967296 ∧ nx < 4294967296 ∧ l.length ≤ c ∧ c ≤ maxLen ∧ (∀ q ∈ l, q.1 < 4294967296) ∧ Reads w w.heap.size 2 A l.length (mcells l) := by
  obtain ⟨hx3, hx4⟩ := fits_fields h Tryd.underlying51 (by kernel_rfl) (by kernel_rfl)
  obtain ⟨a0, a1, a2, a3, a4, rfl⟩ := array5 (show cs.toList.length = 5 from hx3)
  obtain ⟨s, e0, hs⟩ := fits_string (hx4 0 _ a0 rfl rfl) Tryd.underlying9
  obtain ⟨u1, e1, hu1⟩ := fits_int (hx4 1 _ a1 rfl rfl) Tryd.underlying36
  obtain ⟨u2, e2, hu2⟩ := fits_int (hx4 2 _ a2 rfl rfl) Tryd.underlying36
  obtain ⟨u3, e3, _⟩ := fits_int (hx4 3 _ a3 rfl rfl) Tryd.underlying3
  obtain ⟨k1, rfl, hk1⟩ := u32_range hu1
  obtain ⟨k2, rfl, hk2⟩ := u32_range hu2
  obtain ⟨A, c, l, rfl, h1, h2, h3, h4⟩ := open_ents (hx4 4 _ a4 rfl rfl)
  simp only [List.cons.injEq, and_true] at e0 e1 e2 e3
  subst e0 e1 e2 e3
  exact ⟨s, k1, k2, u3, A, c, l, rfl, hs, hk1, hk2, h1, h2, h3, h4⟩
end
end Go.Proofs.YtljclehhicmkhaaDoor
