/-
  Rows of what takes k cells each.
-/
import Derived.Test.YtmjikfeaopmejaaDoorReads
import Derived.Laws.AppendOwn
namespace Go.Proofs.YtmjikfeaopmejaaDoor
open Go.RowKit
section
variable {M : Type} {f : M → List Value} {k : Nat}
theorem flatK_len (hf : ∀ x, (f x).length = k) : ∀ l : List M, (l.flatMap f).length = l.length * k
  | [] => by simp
  | x :: r => by rw [List.flatMap_cons, List.length_append, hf, flatK_len hf r, List.length_cons, Nat.succ_mul]; omega
theorem flatK_at (hf : ∀ x, (f x).length = k) : ∀ (l : List M) (i j : Nat) (x : M), l[i]? = some x → j < k → (l.flatMap f)[i * k + j]? = (f x)[j]?
  | y :: r, 0, j, x, h, hj => by
    have e : y = x := by simpa using h
    subst e
    rw [List.flatMap_cons, Nat.zero_mul, Nat.zero_add, List.getElem?_append_left (by rw [hf]; exact hj)]
  | y :: r, i + 1, j, x, h, hj => by
    have ih := flatK_at hf r i j x (by simpa using h) hj
    rw [List.flatMap_cons, List.getElem?_append_right (by rw [hf, Nat.succ_mul]; omega)]
    have e : (i + 1) * k + j - (f y).length = i * k + j := by rw [hf, Nat.succ_mul]; omega
    rw [e]; exact ih
theorem flatK_take (hf : ∀ x, (f x).length = k) (l : List M) (i : Nat) : (l.take i).flatMap f = (l.flatMap f).take (i * k) := by
  induction l generalizing i with
  | nil => simp
  | cons y r ih =>
    cases i with
    | zero => simp
    | succ i =>
      have h1 : (f y).take ((i + 1) * k) = f y := List.take_of_length_le (by rw [hf, Nat.succ_mul]; omega)
      have h2 : (i + 1) * k - (f y).length = i * k := by rw [hf, Nat.succ_mul]; omega
      rw [List.take_succ_cons, List.flatMap_cons, List.flatMap_cons, List.take_append, h1, h2, ih i]
theorem add_kj (ad : Addr) (i j : Nat) (hj : 0 < j) : ad.add (i + j) = ⟨(ad.add i).block, (ad.add i).off + j, none⟩ := by
  unfold Addr.add; by_cases h : i = 0 <;> simp [h] <;> omega
/-- an element's cells -/
theorem rowK_at {w : World} {B n i : Nat} {A : Option Addr} {l : List M} {x : M} (hf : ∀ x, (f x).length = k) (h : Reads w B k A n (l.flatMap f)) (hn : 0 < n) (hx : l[i]? = some x) :
    ∃ ad, A = some ad ∧ ad.block < B ∧ (∀ u, (f x)[0]? = some u → w.cell? (ad.add (i * k)) = some u) ∧ ∀ j u, 0 < j → (f x)[j]? = some u → w.cell? ⟨(ad.add (i * k)).block, (ad.add (i * k)).off + j, none⟩ = some u := by
  obtain ⟨ad, rfl, hb, hc⟩ := h.2 hn
  have hk : ∀ j u, (f x)[j]? = some u → j < k := fun j u hu => by
    have := (List.getElem?_eq_some_iff.1 hu).1
    rw [hf] at this; exact this
  refine ⟨ad, rfl, hb, fun u hu => ?_, fun j u hj hu => ?_⟩
  · have := hc (i * k + 0) u (by rw [flatK_at hf l i 0 x hx (hk 0 u hu)]; exact hu)
    simpa using this
  · have := hc (i * k + j) u (by rw [flatK_at hf l i j x hx (hk j u hu)]; exact hu)
    rwa [add_kj _ _ _ hj] at this
theorem Reads.takeK {w : World} {B n : Nat} {A : Option Addr} {l : List M} (hf : ∀ x, (f x).length = k) (h : Reads w B k A n (l.flatMap f)) (hl : l.length = n) {i : Nat} (hi : i ≤ n) : Reads w B k A i ((l.take i).flatMap f) := by
  refine ⟨by rw [flatK_len hf, List.length_take]; congr 1; omega, fun hp => ?_⟩
  obtain ⟨ad, e, hb, hc⟩ := h.2 (by omega)
  refine ⟨ad, e, hb, fun j u hu => hc j u ?_⟩
  rw [flatK_take hf, List.getElem?_take] at hu
  split at hu
  · exact hu
  · cases hu
end
end Go.Proofs.YtmjikfeaopmejaaDoor
