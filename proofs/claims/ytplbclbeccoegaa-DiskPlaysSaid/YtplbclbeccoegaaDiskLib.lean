/-
  The library's functions at the disk: bytes.Clone, slices.Sorted(maps.Keys(m)), slices.Grow, slices.Concat.
-/
import Derived.Test.YtplbclbeccoegaaShelf
import Derived.Test.YtplbclbeccoegaaDiskMem
import Derived.Deep.AppendSrc
namespace Go.Proofs.Ytplbclbeccoegaa
open Go.RowKit Go.Maps
/-- a slice of the call's own, and what stands in it -/
theorem own_reads {w : World} {base n size : Nat} {e : TypeId} {v : Value} {xs : List Value} (h : w.ownsRow base e size v n xs) : ∃ A c, v = .slice A n c ∧ Reads w w.heap.size size A n xs ∧ n ≤ c := by
  rcases h.2 with ⟨rfl, h0⟩ | ⟨g, cap, cur, rfl, h1, h2, h3, h4⟩
  · subst h0
    exact ⟨none, 0, rfl, ⟨h.1, fun hn => absurd hn (by omega)⟩, Nat.le_refl _⟩
  · exact ⟨_, cap, rfl, Reads.of_own h, by omega⟩
theorem clone_any (A : Option Addr) (n c : Nat) (l : List UInt8) (w : World) (hl : l.length = n) (hn : n ≤ 1000000000) (hr : Reads w w.heap.size 1 A n (u8s l)) :
    Calls Try.prog 35 #[.slice A n c] w fun e w' => ∃ A' c', e = .returned (.slice A' n c') ∧ Reads w' w'.heap.size 1 A' n (u8s l) ∧ n ≤ c' ∧ Below w.heap.size w w' := by
  cases A with
  | none =>
    have h0 : n = 0 := by
      rcases Nat.eq_zero_or_pos n with h | h
      · exact h
      · obtain ⟨ad, h, _⟩ := hr.2 h; cases h
    subst h0
    refine (Try.bytes_Clone_nil 0 c w).mono ?_
    rintro e w' ⟨rfl, rfl⟩
    exact ⟨none, 0, rfl, hr, Nat.le_refl _, Below.refl _ _⟩
  | some a =>
    have hx : ∀ i, i < n → w.cell? (a.add i) = some (.int .u8 ((l.map fun b => ((b.toNat : Nat) : Int)).getD i 0)) := by
      intro i hi
      obtain ⟨ad, e, _, hc⟩ := hr.2 (by omega)
      injection e with e
      subst e
      have hil : i < l.length := by omega
      refine hc i _ ?_
      rw [u8s_get, List.getElem?_eq_getElem hil]
      simp [List.getD, hil]
    refine (Try.bytes_Clone_at a n c (l.map fun b => ((b.toNat : Nat) : Int)) w (by simpa using hl) (by omega) hx).mono ?_
    rintro e w' ⟨v, rfl, ho, _, hb⟩
    obtain ⟨A', c', rfl, h1, h2⟩ := own_reads ho
    refine ⟨A', c', rfl, ?_, h2, hb⟩
    rw [List.map_map] at h1
    exact h1
end Go.Proofs.Ytplbclbeccoegaa
