/-
  Arguments that are flags, opened.
-/
import Derived.Test.YtljclehhicmkhaaDoorArgs
import Derived.Test.YtljclehhicmkhaaDoorFlagsW
namespace Go.Proofs.YtljclehhicmkhaaDoor
open Go.RowKit
theorem u32_range {n : Int} (h : (Lit.int .u32 n).wf = true) : ∃ k : Nat, n = (k : Nat) ∧ k < 4294967296 := by
  simp [Lit.wf, IntKind.min, IntKind.max, IntKind.signed, IntKind.bits] at h
  exact ⟨n.toNat, by omega, by omega⟩
theorem i64_range {n : Int} (h : (Lit.int .i64 n).wf = true) : -9223372036854775808 ≤ n ∧ n ≤ 9223372036854775807 := by
  simp [Lit.wf, IntKind.min, IntKind.max, IntKind.signed, IntKind.bits] at h
  omega
theorem map_flat {M : Type} (f : M → List Value) (l : List M) : (l.map f).flatten = l.flatMap f := by
  induction l with
  | nil => rfl
  | cons x r ih => rw [List.map_cons, List.flatten_cons, List.flatMap_cons, ih]
section
variable {H : Type} {enc : TypeId × Value → H} {w : World}
theorem open_marks {c1 : Value} (h : Fits enc Tryd.prog w 37 [c1]) : ∃ (A : Option Addr) (c : Nat) (l : List MarkM), c1 = .slice A l.length c ∧ l.length ≤ c ∧ c ≤ maxLen ∧ (∀ q ∈ l, q.1 < 4294967296) ∧ Reads w w.heap.size 2 A l.length (mcells l) := by
  have hk : Tryd.prog.cellsOf 44 = 2 := by kernel_rfl
  obtain ⟨A, n, c, L, hcs, hn, hc, hl, hL, hr⟩ := fits_slice h Tryd.underlying37 (by rw [hk]; omega)
  rw [hk] at hr
  obtain ⟨l, rfl, hq⟩ := choose_list (f := mcell) (Q := fun q => q.1 < 4294967296) fun x hx => by
    obtain ⟨hx1, hx2⟩ := hL x hx
    obtain ⟨hx3, hx4⟩ := fits_fields hx2 Tryd.underlying44 (by kernel_rfl) (by kernel_rfl)
    rw [hk] at hx1
    obtain ⟨a, b, rfl⟩ : ∃ a b, x = [a, b] := by
      match x, hx1 with
      | [a, b], _ => exact ⟨a, b, rfl⟩
    obtain ⟨u, e0, hu⟩ := fits_int (hx4 0 _ a rfl rfl) Tryd.underlying36
    obtain ⟨f, e1, _⟩ := fits_int (hx4 1 _ b rfl rfl) Tryd.underlying3
    obtain ⟨k, rfl, hk⟩ := u32_range hu
    simp only [List.cons.injEq, and_true] at e0 e1
    subst e0 e1
    exact ⟨(k, f), rfl, hk⟩
  rw [List.length_map] at hl
  rw [map_flat] at hr
  subst hl
  simp only [List.cons.injEq, and_true] at hcs
  exact ⟨A, c, l, hcs, hn, hc, hq, hr⟩
theorem open_flags {cs : Array Value} (h : Fits enc Tryd.prog w 39 cs.toList) : ∃ (e : Nat) (A : Option Addr) (c : Nat) (l : List MarkM), cs = #[.int .u32 (e : Nat), .slice A l.length c] ∧ e < 4294967296 ∧ l.length ≤ c ∧ c ≤ maxLen ∧ (∀ q ∈ l, q.1 < 4294967296) ∧ Reads w w.heap.size 2 A l.length (mcells l) := by
  obtain ⟨hx3, hx4⟩ := fits_fields h Tryd.underlying39 (by kernel_rfl) (by kernel_rfl)
  obtain ⟨a, b, rfl⟩ : ∃ a b, cs = #[a, b] := by
    obtain ⟨x⟩ := cs
    match x, hx3 with
    | [a, b], _ => exact ⟨a, b, rfl⟩
  obtain ⟨u, e0, hu⟩ := fits_int (hx4 0 _ a rfl rfl) Tryd.underlying36
  obtain ⟨k, rfl, hk⟩ := u32_range hu
  obtain ⟨A, c, l, rfl, h1, h2, h3, h4⟩ := open_marks (hx4 1 _ b rfl rfl)
  simp only [List.cons.injEq, and_true] at e0
  subst e0
  exact ⟨k, A, c, l, rfl, hk, h1, h2, h3, h4⟩
end
end Go.Proofs.YtljclehhicmkhaaDoor
